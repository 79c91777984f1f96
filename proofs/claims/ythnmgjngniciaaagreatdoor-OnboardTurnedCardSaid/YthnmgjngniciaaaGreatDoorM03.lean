/- Parts. -/
import Derived.Test.YthnmgjngniciaaaGreatDoorM01
import Derived.Test.YthnmgjngniciaaaGreatDoorM02
import Derived.Lib.Hide
import Derived.Shelf.SlicesE.IndexFunc
import Derived.WalkSpells
set_option linter.all false
set_option maxHeartbeats 16000000
set_option maxRecDepth 8000
open Array renaming getElem?_eq_none→dI,getElem?_eq_some_iff→dM,getElem?_setIfInBounds_ne→dR
open Bool renaming and_eq_true→bM
open List renaming getElem?_append_left→dP,getElem?_cons_zero→eP,getElem?_eq_getElem→aI,getElem?_eq_some_iff→aX,getElem?_map→bW,getElem?_take_of_lt→dG,length_eq_zero_iff→dh,nil_append→aZ,range→eY,setIfInBounds_toArray→ay,set_cons_succ→aB,set_cons_zero→aA,take_of_length_le→aY
open Nat renaming le_refl→aW,lt_or_ge→eu,zero_add→aJ,zero_le→aV
open Option.some renaming injEq→aO
namespace Go.Proofs.YthnmgjngniciaaaGreatDoor
open Go.RowKit Go.Shelf Tryz
open Act renaming put→aP
open Addr.mk renaming injEq→cZ
open Below renaming refl→aH
open Lib renaming hid→ah
open Region renaming binds→aC,wanted→aF
open Tryz renaming prog→aj,underlying3→bG,underlying4→dL
variable{p:List St}{k:Nat}{s:St}{t:Tp}{w:World}
section
section
variable {P:Program} {ops:Array Oper} {rest:List Oper} {o:Oper} {a:Act} {w W:World} {Q:Exit->Act->World->Prop}
theorem Own.afy(h:Own w W [])(t:TypeId)(cs:Array Value):Own w (W.alloc (.cells cs t)) [(W,t,cs)]:=h.alloc t cs _ rfl
theorem Own.new1{d:Bk}(h:Own w W [d])(t:TypeId)(cs:Array Value):Own w (W.alloc (.cells cs t)) [d,(W,t,cs)]:=h.alloc t cs _ rfl
theorem Own.b9{d j H J K M N O U:Bk}{L:List Bk}{g:Nat}{t:TypeId}{cs:Array Value}(V:Own w W (d::j::H::J::K::M::N::O::U::(g,t,cs)::L)):fK W g t cs:=Own.at_ (L1:= [d,j,H,J,K,M,N,O,U]) V
theorem Own.b10{d j H J K M N O U V:Bk}{L:List Bk}{g:Nat}{t:TypeId}{cs:Array Value}(Y:Own w W (d::j::H::J::K::M::N::O::U::V::(g,t,cs)::L)):fK W g t cs:=Own.at_ (L1:= [d,j,H,J,K,M,N,O,U,V]) Y
theorem Own.b11{d j J K M N O U V Y H:Bk}{L:List Bk}{g:Nat}{t:TypeId}{cs:Array Value}(Z:Own w W (d::j::J::K::M::N::O::U::V::Y::H::(g,t,cs)::L)):fK W g t cs:=Own.at_ (L1:= [d,j,J,K,M,N,O,U,V,Y,H]) Z
theorem Own.b12{d j K M N O U V Y Z H J:Bk}{L:List Bk}{g:Nat}{t:TypeId}{cs:Array Value}(hO:Own w W (d::j::K::M::N::O::U::V::Y::Z::H::J::(g,t,cs)::L)):fK W g t cs:=Own.at_ (L1:= [d,j,K,M,N,O,U,V,Y,Z,H,J]) hO
theorem Own.b14{d j N O U V Y Z x8 x9 H J K M:Bk}{L:List Bk}{g:Nat}{t:TypeId}{cs:Array Value}(hO:Own w W (d::j::N::O::U::V::Y::Z::x8::x9::H::J::K::M::(g,t,cs)::L)):fK W g t cs:=Own.at_ (L1:= [d,j,N,O,U,V,Y,Z,x8,x9,H,J,K,M]) hO
end
def is8:Value->Bool
 | .int .u8 _=>true
 |_=>false
theorem aq2.apart{w w':World}{A:Option Addr}{c:Nat}{bs:List UInt8}{g:Nat}{t:TypeId}{cs:Array Value}(h:aq2 w A c bs)(J:fK w g t cs)(hn:cs.all (λv=> !is8 v)=true)(V:w'.heap.size=w.heap.size)(K: ∀k,k≠g->w'.heap[k]? =w.heap[k]?):aq2 w' A c bs:=by
 refine⟨λd=>?_,h.cap,h.max⟩;have H:0<bs.length:=by rwa [aq8]at d
 obtain⟨b,off,rfl,U,hc⟩:=h.row d;have M:b≠g:=by rintro rfl;have j:=hc 0 _ (arK bs 0 H);rw[J.cell]at j;rw[Array.all_eq_true]at hn;obtain⟨hi,e⟩:=dM.1 j;have:=hn _ hi;rw[e]at this;simp[is8,q8]at this
 refine⟨b,off,rfl,by omega,λO u N=>?_⟩;rw[World.cell?_of_block (K b M)];exact hc O u N
end
section
theorem ark{α:Type}{l:List α}{k:Nat}{x:α}(h:l[k]? =some x):l.drop k=x::l.drop (k+1):=by obtain⟨d,rfl⟩:=aX.1 h;exact List.drop_eq_getElem_cons d
theorem take_snoc'{α:Type}{l:List α}{k:Nat}{x:α}(h:l[k]? =some x):l.take (k+1)=l.take k++ [x]:=by obtain⟨d,rfl⟩:=aX.1 h;exact List.take_succ_eq_append_getElem d
theorem aq5{α:Type}{l:List α}{k n:Nat}(hn:l.length=n)(h:k<n): ∃x,l[k]? =some x:=⟨l[k]'(by omega),aI (by omega)⟩
theorem fE.part{α:Type}{E:arb α}{w:World}{A:Option Addr}{xs:List α}(h:fE E w A xs)(i:Nat):fE E w A (xs.take i):=by
 cases A with
 |none=>
  have d:xs= []:=by cases xs with|nil=>rfl|cons x xs=>obtain⟨b,off,e,_⟩:=h.get (i:=0) rfl;cases e
  grind
 |some a=>cases xs with|nil=>grind|cons x xs=>obtain⟨b,off,e,_⟩:=h.get (i:=0) rfl;cases e;exact h.take i
structure jl where
  A1:Option Addr
  n1:Nat
  c1:Nat
  A2:Option Addr
  n2:Nat
  c2:Nat
  A3:Option Addr
  n3:Nat
  c3:Nat
  A4:Option Addr
  n4:Nat
  c4:Nat
  rs:List (Rt × Option Addr × Nat)
def jl.cells (m:jl):Array Value:= #[.slice m.A1 m.n1 m.c1,.slice m.A2 m.n2 m.c2,.slice m.A3 m.n3 m.c3,.slice m.A4 m.n4 m.c4]
def jl.v (m:jl):Yd:=⟨m.A1,m.c1,m.A2,m.c2,m.A3,m.c3,m.A4,m.c4,m.rs⟩
structure jE (w:World) (t:Tp) (m:jl):Prop where
  lies:abx w t m.A1 m.A2 m.A3 m.A4 m.rs
  e1:t.edges.length=m.n1
  e2:t.iI.length=m.n2
  e3:t.jW.length=m.n3
  e4:t.routes.length=m.n4
  l1:m.n1<=100
  l2:m.n2<=100
  l3:m.n3<=100
  l4:m.n4<=100
  l5: ∀r∈t.routes,r.path.length<=100
  q1:m.n1<=m.c1
  q2:m.n2<=m.c2
  q3:m.n3<=m.c3
  q4:m.n4<=m.c4
  q5: ∀p∈m.rs,p.1.path.length<=p.2.2
theorem jE.below{w w':World}{t:Tp}{m:jl}(h:jE w t m)(d:w w'):jE w' t m:={h with lies:=h.lies.below d}
theorem jE.cells{w:World}{t:Tp}{m:jl}(h:jE w t m):m.v.cells t=m.cells:=by unfold Yd.cells jl.cells jl.v;rw[h.e1,h.e2,h.e3,h.e4]
section
variable {w:World} {t:Tp} {m:jl}
theorem EG(h:jE w t m)(e:Int)(W:World):Calls aj 76 #[m.cells,e] W λr w'=>r=.returned (.bool (iW t e))/\W w':=by rw[<-h.cells];exact Ny t m.v e W
theorem afz(h:jE w t m)(a b:En):Calls aj 75 #[m.cells,RH a,RH b] w λr w'=>r=.returned (.bool (zU t.iI a b))/\w w':=by rw[<-h.cells];exact NC t m.v a b w h.lies.iI (by have:=h.l2;rw[h.e2];omega)
theorem alG(h:jE w t m)(a b:St):Calls aj 186 #[m.cells,qB a,qB b] w λr w'=>r=.returned (.bool (OY t a b))/\w w':=by rw[<-h.cells];exact afw t m.v a b w h.lies.iI (by have:=h.l2;rw[h.e2];omega)
theorem ah7(h:jE w t m)(x:En)(W:World):Calls aj 74 #[m.cells,RH x] W λr w'=>r=.returned (.bool (Cj t x))/\W w':=by rw[<-h.cells];exact afx t m.v x W
theorem Hw(h:jE w t m)(id:Int):Calls aj 49 #[m.cells,id] w λr w'=>r=.returned (.tuple #[blV ((oz t id).getD ⟨0,0,0⟩),.bool (oz t id).isSome])/\w w':=by rw[<-h.cells];exact afu t m.v id w h.lies.jW (by have:=h.l3;rw[h.e3];omega)
end
end
def LW:Go.Shelf.Ren:=⟨fun |6=>131 |n=>n,fun |22=>25 |23=>97 |25=>217 |3=>3 |0=>0 |4=>4 |n=>n,fun |n=>n⟩
theorem Zo:Go.Proofs.SlLaysH0.n6 aj LW where
  mixed:=by rfl
  f6:=⟨ "slices.IndexFunc[[]lineside/api.Route,lineside/api.Route]",by decide,Tryz.func131.trans (congrArg some (by rfl))⟩
  t0:=underlying0
  a0:=isAgg0
  z0:=sizeOf0
  v0:=zeroValue0
  t3:=bG
  a3:=isAgg3
  z3:=sizeOf3
  v3:=zeroValue3
  t4:=dL
  a4:=isAgg4
  z4:=sizeOf4
  v4:=zeroValue4
  t22:=underlying25
  a22:=isAgg25
  z22:=sizeOf25
  v22:=zeroValue25
  t25:=underlying217
  a25:=isAgg217
  z25:=sizeOf217
  v25:=zeroValue217
def LX:Go.Shelf.Ren:=⟨fun |6=>66 |n=>n,fun |22=>39 |23=>58 |25=>149 |3=>3 |0=>0 |4=>4 |n=>n,fun |n=>n⟩
theorem Zp:Go.Proofs.SlLaysH0.n6 aj LX where
  mixed:=by rfl
  f6:=⟨ "slices.IndexFunc[[]lineside/api.Step,lineside/api.Step]",by decide,Tryz.func66.trans (congrArg some (by rfl))⟩
  t0:=underlying0
  a0:=isAgg0
  z0:=sizeOf0
  v0:=zeroValue0
  t3:=bG
  a3:=isAgg3
  z3:=sizeOf3
  v3:=zeroValue3
  t4:=dL
  a4:=isAgg4
  z4:=sizeOf4
  v4:=zeroValue4
  t22:=underlying39
  a22:=isAgg39
  z22:=sizeOf39
  v22:=zeroValue39
  t25:=underlying149
  a25:=isAgg149
  z25:=sizeOf149
  v25:=zeroValue149
def LY:Go.Shelf.Ren:=⟨fun |8=>128 |6=>66 |n=>n,fun |22=>39 |23=>58 |25=>149 |4=>4 |3=>3 |0=>0 |n=>n,fun |n=>n⟩
theorem Zq:Go.Proofs.SlLaysH0.n8 aj LY where
  mixed:=by rfl
  f6:=⟨ "slices.IndexFunc[[]lineside/api.Step,lineside/api.Step]",by decide,Tryz.func66.trans (congrArg some (by rfl))⟩
  f8:=⟨ "slices.ContainsFunc[[]lineside/api.Step,lineside/api.Step]",by decide,Tryz.func128.trans (congrArg some (by rfl))⟩
  t0:=underlying0
  a0:=isAgg0
  z0:=sizeOf0
  v0:=zeroValue0
  t3:=bG
  a3:=isAgg3
  z3:=sizeOf3
  v3:=zeroValue3
  t4:=dL
  a4:=isAgg4
  z4:=sizeOf4
  v4:=zeroValue4
  t22:=underlying39
  a22:=isAgg39
  z22:=sizeOf39
  v22:=zeroValue39
  t25:=underlying149
  a25:=isAgg149
  z25:=sizeOf149
  v25:=zeroValue149
def LZ:Go.Shelf.Ren:=⟨fun |8=>129 |6=>87 |n=>n,fun |22=>24 |23=>114 |25=>172 |4=>4 |3=>3 |0=>0 |n=>n,fun |n=>n⟩
theorem Zr:Go.Proofs.SlLaysH0.n8 aj LZ where
  mixed:=by rfl
  f6:=⟨ "slices.IndexFunc[[]lineside/api.Bal,lineside/api.Bal]",by decide,Tryz.func87.trans (congrArg some (by rfl))⟩
  f8:=⟨ "slices.ContainsFunc[[]lineside/api.Bal,lineside/api.Bal]",by decide,Tryz.func129.trans (congrArg some (by rfl))⟩
  t0:=underlying0
  a0:=isAgg0
  z0:=sizeOf0
  v0:=zeroValue0
  t3:=bG
  a3:=isAgg3
  z3:=sizeOf3
  v3:=zeroValue3
  t4:=dL
  a4:=isAgg4
  z4:=sizeOf4
  v4:=zeroValue4
  t22:=underlying24
  a22:=isAgg24
  z22:=sizeOf24
  v22:=zeroValue24
  t25:=underlying172
  a25:=isAgg172
  z25:=sizeOf172
  v25:=zeroValue172
def O6:Go.Shelf.Ren:=⟨fun |8=>72 |6=>125 |n=>n,fun |22=>22 |23=>3 |25=>155 |4=>4 |3=>3 |0=>0 |n=>n,fun |n=>n⟩
theorem RJ:Go.Proofs.SlLaysH.n8 aj O6 where
  mixed:=by rfl
  f6:=⟨ "slices.IndexFunc[[]int,int]",by decide,Tryz.func125.trans (congrArg some (by rfl))⟩
  f8:=⟨ "slices.ContainsFunc[[]int,int]",by decide,Tryz.func72.trans (congrArg some (by rfl))⟩
  t0:=underlying0
  a0:=isAgg0
  z0:=sizeOf0
  v0:=zeroValue0
  t3:=bG
  a3:=isAgg3
  z3:=sizeOf3
  v3:=zeroValue3
  t4:=dL
  a4:=isAgg4
  z4:=sizeOf4
  v4:=zeroValue4
  t22:=underlying22
  a22:=isAgg22
  z22:=sizeOf22
  v22:=zeroValue22
  a23:=isAgg3
  z23:=sizeOf3
  t25:=underlying155
  a25:=isAgg155
  z25:=sizeOf155
  v25:=zeroValue155
instance:Inhabited (Rt × Option Addr × Nat):=⟨(⟨0,[],0,0⟩,none,0)⟩
instance:Inhabited St:=⟨⟨0,false⟩⟩
instance:Inhabited Sc:=⟨⟨0,0⟩⟩
instance:Inhabited Sp:=⟨⟨0,0,0⟩⟩
theorem arD{P:Program}{α:Type}{E:arb α}{ts t:TypeId}{bytes:Nat}(z:Value)(d:P.underlying ts=some (.slice t))(h:((P.info? t).map λi=>(i.zero,i.size,i.bytes))=some (some z,E.k,bytes))(j:z.cells.size=E.k):qo P E ts t bytes:=by refine⟨d,?_⟩;cases hi:P.info? t with|none=>grind|some i=>grind
theorem RN:qo aj gV 39 58 16:=arD (.agg gz) underlying39 (by kernel_rfl) rfl
theorem abI:qo aj kW 40 60 16:=arD (.agg gF) underlying40 (by kernel_rfl) rfl
theorem ND:qo aj iO 73 130 24:=arD (.agg gC) underlying73 (by kernel_rfl) rfl
theorem abJ:qo aj aq7 22 3 8:=arD (.int .i64 0) underlying22 (by kernel_rfl) rfl
theorem afA(g:Nat)(H: ∀args w,(callFunc g args).run aj w=.ok (.enter g args) w)(lb:Array Value)(q:(Rt × Option Addr × Nat)->Bool)(A:Option Addr)(n c:Nat)(xs:List (Rt × Option Addr × Nat))(w:World)(M:PredBelow aj g lb (λx=> .agg (zT.enc x).toArray) q w)(d:fE zT w A xs)(hn:xs.length=n)(J:n<=9223372036854775807):Calls aj 131 #[.slice A n c,.func (.func g) #[] lb] w λe w'=>e=.returned (Lib.idxBy (λ_ y=>q y) xs default:Int)/\w w':=by
 cases n with
 |zero=>
  have:xs= []:=dh.1 hn;subst this;go_enter func131,ntmps131;go_wp2;go_loopg [5,8] 0 (λ_ _ U wr=>U=.int .i64 0/\w wr);case atStart=>exact⟨rfl,aH _ _⟩
  case round=>obtain⟨rfl,N⟩:=hrel;go_wp2;go_ret;exact⟨rfl,N⟩
 |succ n=>
  obtain⟨b,off,rfl,K,_⟩:=d.get (aI (show 0<xs.length by omega));have:=AnyQ.slices_IndexFunc Zo 4 isAgg97 sizeOf97 zT.enc zT.len q g lb H b off (n+1) c xs w M (by omega) J K ?_;·rw[<-hn,List.take_length]at this;rw[<-hn];exact this
  ·intro O j i u hi;obtain⟨V,Y,e,_,hc⟩:=d.get (aI j);simp only[aO,cZ]at e;obtain⟨rfl,rfl,-⟩:=e;rw[getElem!_pos xs O j]at hi;exact hc i u hi
theorem Yi(g:Nat)(H: ∀args w,(callFunc g args).run aj w=.ok (.enter g args) w)(lb:Array Value)(q:St->Bool)(A:Option Addr)(n c:Nat)(xs:List St)(w:World)(M:PredBelow aj g lb (λx=> .agg (gV.enc x).toArray) q w)(d:fE gV w A xs)(hn:xs.length=n)(J:n<=9223372036854775807):Calls aj 66 #[.slice A n c,.func (.func g) #[] lb] w λe w'=>e=.returned (Lib.idxBy (λ_ y=>q y) xs default:Int)/\w w':=by
 cases n with
 |zero=>
  have:xs= []:=dh.1 hn;subst this;go_enter func66,ntmps66;go_wp2;go_loopg [5,8] 0 (λ_ _ U wr=>U=.int .i64 0/\w wr);case atStart=>exact⟨rfl,aH _ _⟩
  case round=>obtain⟨rfl,N⟩:=hrel;go_wp2;go_ret;exact⟨rfl,N⟩
 |succ n=>
  obtain⟨b,off,rfl,K,_⟩:=d.get (aI (show 0<xs.length by omega));have:=AnyQ.slices_IndexFunc Zp 2 isAgg58 sizeOf58 gV.enc gV.len q g lb H b off (n+1) c xs w M (by omega) J K ?_;·rw[<-hn,List.take_length]at this;rw[<-hn];exact this
  ·intro O j i u hi;obtain⟨V,Y,e,_,hc⟩:=d.get (aI j);simp only[aO,cZ]at e;obtain⟨rfl,rfl,-⟩:=e;rw[getElem!_pos xs O j]at hi;exact hc i u hi
theorem afB(g:Nat)(H: ∀args w,(callFunc g args).run aj w=.ok (.enter g args) w)(lb:Array Value)(q:Bl->Bool)(A:Option Addr)(n c:Nat)(xs:List Bl)(w:World)(M:PredBelow aj g lb (λx=> .agg (qW.enc x).toArray) q w)(d:fE qW w A xs)(hn:xs.length=n)(J:n<=9223372036854775807):Calls aj 87 #[.slice A n c,.func (.func g) #[] lb] w λe w'=>e=.returned (Lib.idxBy (λ_ y=>q y) xs default:Int)/\w w':=by
 cases n with
 |zero=>
  have:xs= []:=dh.1 hn;subst this;go_enter func87,ntmps87;go_wp2;go_loopg [5,8] 0 (λ_ _ U wr=>U=.int .i64 0/\w wr);case atStart=>exact⟨rfl,aH _ _⟩
  case round=>obtain⟨rfl,N⟩:=hrel;go_wp2;go_ret;exact⟨rfl,N⟩
 |succ n=>
  obtain⟨b,off,rfl,K,_⟩:=d.get (aI (show 0<xs.length by omega));have:=AnyQ.slices_IndexFunc Nz 3 isAgg114 sizeOf114 qW.enc qW.len q g lb H b off (n+1) c xs w M (by omega) J K ?_;·rw[<-hn,List.take_length]at this;rw[<-hn];exact this
  ·intro O j i u hi;obtain⟨V,Y,e,_,hc⟩:=d.get (aI j);simp only[aO,cZ]at e;obtain⟨rfl,rfl,-⟩:=e;rw[getElem!_pos xs O j]at hi;exact hc i u hi
theorem Yj(g:Nat)(j: ∀args w,(callFunc g args).run aj w=.ok (.enter g args) w)(lb:Array Value)(q:St->Bool)(A:Option Addr)(n c:Nat)(xs:List St)(w:World)(J:PredBelow aj g lb (λx=> .agg (gV.enc x).toArray) q w)(d:fE gV w A xs)(hn:xs.length=n)(K:n<=9223372036854775807):Calls aj 128 #[.slice A n c,.func (.func g) #[] lb] w λe w'=>e=.returned (.bool (xs.any q))/\w w':=by
 cases n with
 |zero=>have:xs= []:=dh.1 hn;subst this;go_enter func128,ntmps128;go_wp2_with(first|(go_at_call 66;(refine(Yi g j lb q A 0 c [] _ J d rfl (by omega)).mono ?_);rintro e Y⟨rfl,M⟩));go_ret;exact⟨by rfl,M⟩
 |succ n=>
  obtain⟨b,off,rfl,N,_⟩:=d.get (aI (show 0<xs.length by omega));have:=AnyQ.slices_ContainsFunc Zq 2 isAgg58 sizeOf58 gV.enc gV.len q g lb j b off (n+1) c xs w J (by omega) K N ?_;·rw[<-hn,List.take_length]at this;rw[<-hn];exact this
  ·intro O H i u hi;obtain⟨U,V,e,_,hc⟩:=d.get (aI H);simp only[aO,cZ]at e;obtain⟨rfl,rfl,-⟩:=e;rw[getElem!_pos xs O H]at hi;exact hc i u hi
theorem afC(g:Nat)(j: ∀args w,(callFunc g args).run aj w=.ok (.enter g args) w)(lb:Array Value)(q:Bl->Bool)(A:Option Addr)(n c:Nat)(xs:List Bl)(w:World)(J:PredBelow aj g lb (λx=> .agg (qW.enc x).toArray) q w)(d:fE qW w A xs)(hn:xs.length=n)(K:n<=9223372036854775807):Calls aj 129 #[.slice A n c,.func (.func g) #[] lb] w λe w'=>e=.returned (.bool (xs.any q))/\w w':=by
 cases n with
 |zero=>have:xs= []:=dh.1 hn;subst this;go_enter func129,ntmps129;go_wp2_with(first|(go_at_call 87;(refine(afB g j lb q A 0 c [] _ J d rfl (by omega)).mono ?_);rintro e Y⟨rfl,M⟩));go_ret;exact⟨by rfl,M⟩
 |succ n=>
  obtain⟨b,off,rfl,N,_⟩:=d.get (aI (show 0<xs.length by omega));have:=AnyQ.slices_ContainsFunc Zr 3 isAgg114 sizeOf114 qW.enc qW.len q g lb j b off (n+1) c xs w J (by omega) K N ?_;·rw[<-hn,List.take_length]at this;rw[<-hn];exact this
  ·intro O H i u hi;obtain⟨U,V,e,_,hc⟩:=d.get (aI H);simp only[aO,cZ]at e;obtain⟨rfl,rfl,-⟩:=e;rw[getElem!_pos xs O H]at hi;exact hc i u hi
theorem abK(g:Nat)(J: ∀args w,(callFunc g args).run aj w=.ok (.enter g args) w)(lb:Array Value)(q:Int->Bool)(A:Option Addr)(n c:Nat)(xs:List Int)(w:World)(N:PredAt aj g lb (Value.int .i64) q w)(H:fE aq7 w A xs)(hn:xs.length=n)(K:n<=9223372036854775807):Calls aj 72 #[.slice A n c,.func (.func g) #[] lb] w λe w'=>e=.returned (.bool (xs.any q))/\w w':=by
 cases n with
 |zero=>have:xs= []:=dh.1 hn;subst this;exact(AnyE.slices_ContainsFunc_empty RJ A c _ w).mono λe w' ⟨d,j⟩=>⟨d,j▸aH _ _⟩
 |succ n=>
  obtain⟨b,off,rfl,U,_⟩:=H.get (aI (show 0<xs.length by omega));have:=AnyE.slices_ContainsFunc RJ (Value.int .i64) q g lb J b off (n+1) c xs w N (by omega) K ?_;·rw[<-hn,List.take_length]at this;rw[<-hn];exact this.mono λe w' ⟨d,m,j⟩=>⟨d,j▸below_drewN' (aH _ w) m⟩
  ·intro V M;obtain⟨O,Y,e,_,hc⟩:=H.int M;simp only[aO,cZ]at e;obtain⟨rfl,rfl,-⟩:=e;exact hc
theorem VW(A:Option Addr)(n c:Nat)(xs:List St)(w:World)(J:fE gV w A xs)(hn:xs.length=n)(hl:n<=65536):Calls aj 54 #[.slice A n c] w λe w'=> ∃H d,e=.returned (.slice H n d)/\aq1 gV 58 w' w H d xs/\w w':=by
 have aa: ∀(W:World) (a:Option Addr) (n c j d:Nat),(binOp .eql 39 (.slice a n c) (.slice none j d)).run aj W=.ok a.isNone W:=λW a n c j d=>Lib.run_eql_slice_nil W _ _ a n c j d underlying39;cases A with
 |none=>
  have U:xs= []:=by cases xs with|nil=>rfl|cons x xs=>obtain⟨b,off,e,_⟩:=J.get (i:=0) rfl;cases e
  subst U;go_enter func54,ntmps54;go_wp2;go_ret;exact⟨none,0,by simp;omega,aq1.nil _ _,aH _ _⟩
 |some O=>have V:aq1 gV 58 (w.alloc (.cells #[] 58)) w w 0 ([]:List St):=⟨by rfl,.inr ⟨w,0,#[],rfl,aW _,fK.new _ _ _,aW _,aV _,rfl,rfl⟩⟩;have K:w (w.alloc (.cells #[] 58)):=gY.alloc ig _;have Y:=ah hn;go_enter func54,ntmps54;go_wp2_with(at_builtin;refine gW RN rfl _ _ rfl w w 0 [] 0 rfl rfl V (some O) c xs n rfl Y.out (J.alloc _) (by omega) (by decide) (by simp) ?_;intro A2 c2 W2 M N Z);go_ret;simp only[aZ]at M;refine⟨A2,c2,by simp,M,K.grown N K.size ?_⟩;simp
theorem abL(A:Option Addr)(n c:Nat)(xs:List Sc)(w:World)(J:fE kW w A xs)(hn:xs.length=n)(hl:n<=65536):Calls aj 55 #[.slice A n c] w λe w'=> ∃H d,e=.returned (.slice H n d)/\aq1 kW 60 w' w H d xs/\w w':=by
 have aa: ∀(W:World) (a:Option Addr) (n c j d:Nat),(binOp .eql 40 (.slice a n c) (.slice none j d)).run aj W=.ok a.isNone W:=λW a n c j d=>Lib.run_eql_slice_nil W _ _ a n c j d underlying40;cases A with
 |none=>
  have U:xs= []:=by cases xs with|nil=>rfl|cons x xs=>obtain⟨b,off,e,_⟩:=J.get (i:=0) rfl;cases e
  subst U;go_enter func55,ntmps55;go_wp2;go_ret;exact⟨none,0,by simp;omega,aq1.nil _ _,aH _ _⟩
 |some O=>have V:aq1 kW 60 (w.alloc (.cells #[] 60)) w w 0 ([]:List Sc):=⟨by rfl,.inr ⟨w,0,#[],rfl,aW _,fK.new _ _ _,aW _,aV _,rfl,rfl⟩⟩;have K:w (w.alloc (.cells #[] 60)):=gY.alloc ig _;have Y:=ah hn;go_enter func55,ntmps55;go_wp2_with(at_builtin;refine gW abI rfl _ _ rfl w w 0 [] 0 rfl rfl V (some O) c xs n rfl Y.out (J.alloc _) (by omega) (by decide) (by simp) ?_;intro A2 c2 W2 M N Z);go_ret;simp only[aZ]at M;refine⟨A2,c2,by simp,M,K.grown N K.size ?_⟩;simp
theorem alH(A:Option Addr)(n c:Nat)(xs:List Int)(w:World)(J:fE aq7 w A xs)(hn:xs.length=n)(hl:n<=65536):Calls aj 56 #[.slice A n c] w λe w'=> ∃H d,e=.returned (.slice H n d)/\aq1 aq7 3 w' w H d xs/\w w':=by
 have aa: ∀(W:World) (a:Option Addr) (n c j d:Nat),(binOp .eql 22 (.slice a n c) (.slice none j d)).run aj W=.ok a.isNone W:=λW a n c j d=>Lib.run_eql_slice_nil W _ _ a n c j d underlying22;cases A with
 |none=>
  have U:xs= []:=by cases xs with|nil=>rfl|cons x xs=>obtain⟨b,off,e,_⟩:=J.get (i:=0) rfl;cases e
  subst U;go_enter func56,ntmps56;go_wp2;go_ret;exact⟨none,0,by simp;omega,aq1.nil _ _,aH _ _⟩
 |some O=>have V:aq1 aq7 3 (w.alloc (.cells #[] 3)) w w 0 ([]:List Int):=⟨by rfl,.inr ⟨w,0,#[],rfl,aW _,fK.new _ _ _,aW _,aV _,rfl,rfl⟩⟩;have K:w (w.alloc (.cells #[] 3)):=gY.alloc ig _;have Y:=ah hn;go_enter func56,ntmps56;go_wp2_with(at_builtin;refine gW abJ rfl _ _ rfl w w 0 [] 0 rfl rfl V (some O) c xs n rfl Y.out (J.alloc _) (by omega) (by decide) (by simp) ?_;intro A2 c2 W2 M N Z);go_ret;simp only[aZ]at M;refine⟨A2,c2,by simp,M,K.grown N K.size ?_⟩;simp
theorem aiV(A:Option Addr)(n c:Nat)(xs:List Sp)(w:World)(J:fE iO w A xs)(hn:xs.length=n)(hl:n<=65536):Calls aj 94 #[.slice A n c] w λe w'=> ∃H d,e=.returned (.slice H n d)/\aq1 iO 130 w' w H d xs/\w w':=by
 have aa: ∀(W:World) (a:Option Addr) (n c j d:Nat),(binOp .eql 73 (.slice a n c) (.slice none j d)).run aj W=.ok a.isNone W:=λW a n c j d=>Lib.run_eql_slice_nil W _ _ a n c j d underlying73;cases A with
 |none=>
  have U:xs= []:=by cases xs with|nil=>rfl|cons x xs=>obtain⟨b,off,e,_⟩:=J.get (i:=0) rfl;cases e
  subst U;go_enter func94,ntmps94;go_wp2;go_ret;exact⟨none,0,by simp;omega,aq1.nil _ _,aH _ _⟩
 |some O=>have V:aq1 iO 130 (w.alloc (.cells #[] 130)) w w 0 ([]:List Sp):=⟨by rfl,.inr ⟨w,0,#[],rfl,aW _,fK.new _ _ _,aW _,aV _,rfl,rfl⟩⟩;have K:w (w.alloc (.cells #[] 130)):=gY.alloc ig _;have Y:=ah hn;go_enter func94,ntmps94;go_wp2_with(at_builtin;refine gW ND rfl _ _ rfl w w 0 [] 0 rfl rfl V (some O) c xs n rfl Y.out (J.alloc _) (by omega) (by decide) (by simp) ?_;intro A2 c2 W2 M N Z);go_ret;simp only[aZ]at M;refine⟨A2,c2,by simp,M,K.grown N K.size ?_⟩;simp
section
def zX:Op->Option (List Operand)
 | .move x | .assign x | .nilCheck x | .box _ x | .load _ x | .unOp _ _ x | .convert _ _ x | .fieldAddr _ x _ | .field _ x _ | .extract x _=>some [x]
 | .pick c a b=>some [c,a,b]
 | .alloc _=>some []
 | .build _ ps=>some (ps.toList.map (·.2))
 | .store _ x y | .binOp _ _ x y _ | .indexAddr _ x y | .index _ x y | .lookup _ x y _=>some [x,y]
 | .slice _ x lo hi mx=>some (x::(lo.toList++hi.toList++mx.toList))
 | .call c=>match c.callee with
   | .value f=>some (f::c.args.toList)
   | .builtin _=>some c.args.toList
   | .invoke r _=>some (r::c.args.toList)
 |_=>none
theorem abM{α d:Type}{f g:α->d}{xs:Array α}(h: ∀x∈xs.toList,f x=g x):xs.map f=xs.map g:=by apply Array.ext (by simp);intro i j H;simp only[Array.getElem_map];exact h _ (by simp)
theorem VX{α d:Type}{f g:α->d}{o:Option α}(h: ∀x∈o.toList,f x=g x):o.map f=o.map g:=by cases o with|none=>rfl|some x=>exact congrArg some (h x (by simp))
theorem alI{ρ j:Operand->Value}{o:Oper}{l:List Operand}(d:zX o.op=some l)(h: ∀x∈l,ρ x=j x):execOp ρ o=execOp j o:=by
 obtain⟨N,M,ty,pos,after,O⟩:=o;cases M with
 |build t ps=>
  simp only[zX,aO]at d;subst d;have e:(ps.map λ(p:Nat × Operand)=>(p.1,ρ p.2))=ps.map λp=>(p.1,j p.2):=abM λp K=>by rw[h p.2 (List.mem_map_of_mem K)]
  show(do pure (.value (<-Instr.build t (ps.map λ(p:Nat × Operand)=>(p.1,ρ p.2)))):Sem Next)=_;rw[e];rfl
 |slice t x lo hi J=>simp only[zX,aO]at d;subst d;have e1:=h x (by simp);have e2:lo.map ρ=lo.map j:=VX λy H=>h y (by simp_all);have e3:hi.map ρ=hi.map j:=VX λy H=>h y (by simp_all);have e4:J.map ρ=J.map j:=VX λy H=>h y (by simp_all);simp only[execOp,e1,e2,e3,e4]
 |call c=>
  obtain⟨cl,args,U⟩:=c;have e:args.map ρ=args.map j:=abM λy H=>h y (by cases cl <;> simp_all[zX] <;> (subst d;simp_all));cases cl <;> simp only[execOp,resolve,e];·rw[h _ (by simp_all[zX];subst d;simp)]
  ·rw[h _ (by simp_all[zX];subst d;simp)]
 |_=>first|(simp[zX]at d;done)|(simp only[zX,aO]at d;subst d;simp_all[execOp])
def sqW (o:Oper) (j:Nat):Bool:=o.after.any fun e=>e.on==j&&aC .any e
def sqR (ops:Array Oper) (o:Oper):Operand->Bool
 | .tmp t=>(eY ops.size).all fun j=>match ops[j]? with
   |some p=>p.dst != some t || sqW o j
   |none=>true
 |_=>true
def alJ (ops:Array Oper):Bool:=(eY ops.size).all fun i=>match ops[i]? with
 |none=>false
 | some o=> (match zX o.op with
   |none=>false
   |some l=>l.all (sqR ops o))&&match o.guard with
   |none=>true
   |some (j,_)=>sqW o j
theorem yI(u:Nat->Value): ∀(j:List (Option Tmp)) (k:Nat) (a:Act),(aq9 u j k a).tmps.size=a.tmps.size
 | [],_,_=>rfl
 |d::j,k,a=>by show(aq9 u j (k+1) (a.put d (u k))).tmps.size=_;rw[yI u j];cases d <;> simp[aP]
theorem abN(a:Act)(d:Option Tmp)(v:Value)(t:Nat)(h:d≠some t):(a.put d v).tmps[t]? =a.tmps[t]? :=by cases d with|none=>rfl|some x=>simp only[aP];exact dR (λe=>h (by rw[e]))
theorem O7(u:Nat->Value)(t:Nat): ∀(j:List (Option Tmp)) (k:Nat) (a:Act),some t∉j->(aq9 u j k a).tmps[t]? =a.tmps[t]?
 | [],_,_,_=>rfl
 |d::j,k,a,h=>by show(aq9 u j (k+1) (a.put d (u k))).tmps[t]? =_;rw[O7 u t j _ _ (λhm=>h (List.mem_cons_of_mem _ hm))];exact abN _ _ _ _ (λe=>h (by rw[e];exact List.mem_cons_self))
theorem abO{d:Option Tmp}{j:List (Option Tmp)}(h:arl (d::j)=true):arl j=true/\ ∀t,d=some t->some t∉j:=by cases d with|none=>exact⟨h,λt e=>by cases e⟩|some x=>simp only[arl,bM,Bool.not_eq_true',List.contains_eq_mem]at h;exact⟨h.2,λt e=>by injection e with e;subst e;simpa using h.1⟩
theorem RP(u:Nat->Value)(t:Nat): ∀(j:List (Option Tmp)) (k i:Nat) (a:Act),arl j=true->j[i]? =some (some t)->t<a.tmps.size->(aq9 u j k a).tmps[t]? =some (u (k+i))
 | [],_,_,_,_,h,_=>by simp at h
 |d::j,k,0,a,ha,h,ht=>by simp only[eP,aO]at h;subst h;show(aq9 u j (k+1) (a.put (some t) (u k))).tmps[t]? =_;rw[O7 u t j _ _ ((abO ha).2 t rfl)];simp[aP,ht]
 |d::j,k,i+1,a,ha,h,ht=>by show(aq9 u j (k+1) (a.put d (u k))).tmps[t]? =_;rw[RP u t j (k+1) i _ (abO ha).1 (by simpa using h) (by cases d <;> simpa[aP] using ht)];congr 2;omega
theorem O8(u J:Nat->Value): ∀(j:List (Option Tmp)) (k:Nat) (a:Act),(∀H,k<=H->H<k+j.length->u H=J H)->aq9 u j k a=aq9 J j k a
 | [],_,_,_=>rfl
 |d::j,k,a,h=>by show aq9 u j (k+1) (a.put d (u k))=aq9 J j (k+1) (a.put d (J k));rw[h k ig (by simp),O8 u J j (k+1) _ (λH M K=>h H (by omega) (by simp at K ⊢;omega))]
theorem Yk(u:Nat->Value)(j:Option Tmp): ∀(d:List (Option Tmp)) (k:Nat) (a:Act),aq9 u (d++ [j]) k a=(aq9 u d k a).put j (u (k+d.length))
 | [],_,_=>rfl
 |e::d,k,a=>by show aq9 u (d++ [j]) (k+1) (a.put e (u k))=(aq9 u d (k+1) (a.put e (u k))).put j _;rw[Yk u j d];congr 2;simp;omega
theorem O9: ∀(j:List (Option Tmp)) (n:Nat),arl j=true->arl (j.take n)=true
 |_,0,_=>rfl
 | [],_+1,_=>rfl
 |none::j,n+1,h=>O9 j n h
 |some d::j,n+1,h=>by simp only[arl,bM,Bool.not_eq_true',List.contains_eq_mem,List.take_succ_cons]at h ⊢;exact⟨by simpa using λhm=>(by simpa using h.1:some d∉j) (List.mem_of_mem_take hm),O9 j n h.2⟩
section
variable {P:Program} {ops:Array Oper} {w0:World} {Q:Exit->Act->World->Prop}
def gX (P:Program) (ops:Array Oper) (w0:World) (Q:Exit->Act->World->Prop):List Oper->Act->Prop
 | [],a=> ∀w,w0 w->Q .normal a w
 |o::rest,a=> ∃c,(if aF o (yielded ops a.tmps)=true then ∀w,w0 w-> ∀(K:Act->World->Prop) (Q':Exit->Act->World->Prop),(∀w',w w'->K (a.put o.dst c) w')->o.wp P a w K Q' else c=undef)/\gX P ops w0 Q rest (a.put o.dst c)
theorem gX.want{o:Oper}{rest:List Oper}{a:Act}{c:Value}(J:aF o (yielded ops a.tmps)=true)(h: ∀w,w0 w-> ∀(d:Act->World->Prop) (j:Exit->Act->World->Prop),(∀w',w w'->d (a.put o.dst c) w')->o.wp P a w d j){a':Act}(H:a.put o.dst c=a')(r:gX P ops w0 Q rest a'):gX P ops w0 Q (o::rest) a:=⟨c,by rw[if_pos J];exact h,by rw[H];exact r⟩
theorem gX.nil{a:Act}(h: ∀w,w0 w->Q .normal a w):gX P ops w0 Q [] a:=h
theorem gX.skip{o:Oper}{rest:List Oper}{a:Act}(j:aF o (yielded ops a.tmps)=false){a':Act}(d:a.put o.dst undef=a')(r:gX P ops w0 Q rest a'):gX P ops w0 Q (o::rest) a:=⟨undef,by rw[if_neg (by rw[j];exact Bool.false_ne_true)],by rw[d];exact r⟩
theorem aiW{a b:Act}(K:b.tmps.size=a.tmps.size)(d:Option Tmp){v c:Value}(h:a.put d v=a.put d c):b.put d v=b.put d c:=by
 cases d with
 |none=>rfl
 |some x=>
  simp only[aP,Act.mk.injEq,and_true]at h ⊢;by_cases J:x<a.tmps.size;·have j:=congrArg (λt=>t[x]?) h;simp only[Array.getElem?_setIfInBounds_self_of_lt J,aO]at j;rw[j]
  ·(have H:b.tmps.size<=x:=by rw[K];exact Nat.le_of_not_lt J);rw[Array.setIfInBounds_eq_of_size_le H,Array.setIfInBounds_eq_of_size_le H]
theorem alK{o:Oper}{a b:Act}{w:World}{c:Value}{H:Act->World->Prop}(O:b.tmps.size=a.tmps.size)(M: ∀v w',w w'->v=c->H (b.put o.dst v) w'): ∀ {r:Result Next},o.upon P a (λa' w'=>w w'/\a'=a.put o.dst c) (λ_ _ _=>False) r->o.upon P b H Q r:=by
 have j: ∀v w',w w'/\a.put o.dst v=a.put o.dst c->H (b.put o.dst v) w':=λv w' h=>by rw[aiW O _ h.2];exact M c w' h.1 rfl
 intro r h;cases r with
 |ok n w'=>
  cases n with
  |value v=>exact j v w' h
  |skip=>exact j undef w' h
  |defer V=>have K:=congrArg (λx=>x.defers.length) h.2;cases N:o.dst <;> simp[aP,N]at K
  |enter f args=>refine Calls.mono h λe J d=>?_;cases e with|returned v=>exact j v J d|panicked U=>exact d.elim|outgrown=>obtain⟨_,_,h⟩:=d;exact h.elim
  |row row args=>exact Rows.mono h λv J d=>j v J d
  |_=>exact h.elim
 |halt x w'=>cases x <;> exact h.elim
theorem alL{o:Oper}{d:Nat}(h:sqW o d=true): ∃e∈o.after.toList,aC .any e=true/\e.on=d:=by unfold sqW at h;simp only[Array.any_eq_true,bM,beq_iff_eq]at h;obtain⟨i,hi,j,H⟩:=h;exact⟨o.after[i],by simp,H,j⟩
theorem alM{l:List Oper}{a0:Act}{u J:Nat->Value}{i:Nat}{o:Oper}(hap:arl (l.map (·.dst))=true)(V: ∀d,sqW o d=true->d<i/\u d=J d)(t:Nat)(U:sqR l.toArray o (.tmp t)=true):(aq9 u (l.map (·.dst)) 0 a0).tmps[t]? =(aq9 J ((l.map (·.dst)).take i) 0 a0).tmps[t]? :=by
 by_cases M:t<a0.tmps.size
 ·by_cases hm:some t∈l.map (·.dst);·obtain⟨d,j⟩:=List.mem_iff_getElem?.1 hm;(have K:d<l.length:=by have:=(aX.1 j).1;simpa using this);(have Y:sqW o d=true:=by have H:=List.all_eq_true.1 U d (by simpa using K);simp only[List.getElem?_toArray,aI K]at H;(have O:(l[d]).dst=some t:=by rw[bW,aI K]at j;simpa using j);simpa[O] using H);obtain⟨N,H⟩:=V d Y;rw[RP u t _ 0 d a0 hap j M,RP J t _ 0 d a0 (O9 _ _ hap) (by rw[dG N];exact j) M,aJ,H]
  ·rw[O7 u t _ _ _ hm,O7 J t _ _ _ (λh=>hm (List.mem_of_mem_take h))]
 ·rw[dI (by rw[yI];omega),dI (by rw[yI];omega)]
theorem Yl{l:List Oper}{a0:Act}(hap:arl (l.map (·.dst))=true)(hB:uO l.toArray=true)(hr:alJ l.toArray=true): ∀(rest:List Oper) (i:Nat) (j:Nat->Value) (K:List (Value->World->Prop)),l.drop i=rest->(∀d,d<i->K[d]? =some (Is (j d)))->K.length=i->i<=l.length->gX P l.toArray w0 Q rest (aq9 j ((l.map (·.dst)).take i) 0 a0)->Lex P l.toArray (λu=>aq9 u (l.map (·.dst)) 0 a0) w0 Q rest i K
 | [],i,j,K,hd,Ez,hl,hi,h=>by
  intro u w V hw;have hn:l.length=i:=by have:=congrArg List.length hd;simp at this;omega
  have:=h w V;rw[aY (by simp[hn]),<-O8 u j _ _ _ (λd _ H=>by(have am:d<i:=by simp at H;omega);exact hw d _ (Ez d am))]at this;exact this
 |o::rest,i,j,K,hd,Ez,hl,hi,h=>by
  obtain⟨c,M,h2⟩:=h;have ag:i<l.length:=by have:=congrArg List.length hd;simp at this;omega
  have Z:l[i]? =some o:=by have:=congrArg (λx=>x[0]?) hd;simpa[List.getElem?_drop] using this
  have J:(match zX o.op with |none=>false |some m=>m.all (sqR l.toArray o))=true/\(match o.guard with |none=>true |some (d,_)=>sqW o d)=true:=by have:=List.all_eq_true.1 hr i (by simpa using ag);simp only[List.getElem?_toArray,Z,bM]at this;exact this
  refine⟨Is c,⟨Jo c,λu w V hw=>?_⟩,?_⟩;·(have hu: ∀d,sqW o d=true->d<i/\u d=j d:=λd H=>by obtain⟨e,he,ad,rfl⟩:=alL H;have ak:=Du hB (i:=i) (o:=o) (by simpa using Z) e (by simpa using he) ad;exact⟨ak,hw e he ad _ (Ez _ ak)⟩);(have au: ∀d,sqW o d=true->yielded l.toArray (aq9 u (l.map (·.dst)) 0 a0).tmps d=yielded l.toArray (aq9 j ((l.map (·.dst)).take i) 0 a0).tmps d:=λd H=>by obtain⟨N,an⟩:=hu d H;unfold yielded;cases ae:(l.toArray[d]?).bind (·.dst) with|none=>rfl|some t=>simp only[Option.bind_some];(have af:(l.map (·.dst))[d]? =some (some t):=by(have ai:d<l.length:=by omega);simp only[List.getElem?_toArray,aI ai,Option.bind_some]at ae;simp[bW,aI ai,ae]);by_cases O:t<a0.tmps.size;(·rw[RP u t _ 0 d a0 hap af O,RP j t _ 0 d a0 (O9 _ _ hap) (by rw[dG N];exact af) O,aJ,an]);·rw[dI (by rw[yI];exact Nat.le_of_not_lt O),dI (by rw[yI];exact Nat.le_of_not_lt O)]);(have ar:aF o (yielded l.toArray (aq9 u (l.map (·.dst)) 0 a0).tmps)=aF o (yielded l.toArray (aq9 j ((l.map (·.dst)).take i) 0 a0).tmps):=by unfold aF;cases hg:o.guard with|none=>rfl|some g=>obtain⟨d,wn⟩:=g;have:=J.2;rw[hg]at this;simp only[au d this]);unfold qR jP;rw[ar];split;(·rename_i ac;rw[if_pos ac]at M;intro av hK;have U:=M w V (λa' w'=>w w'/\a'=(aq9 j ((l.map (·.dst)).take i) 0 a0).put o.dst c) (λ_ _ _=>False) (λw' Y=>⟨Y,rfl⟩);cases aa:zX o.op with|none=>rw[aa]at J;exact absurd J.1 (by simp)|some m=>rw[aa]at J;(have al: ∀x∈m,(aq9 u (l.map (·.dst)) 0 a0).eval x=(aq9 j ((l.map (·.dst)).take i) 0 a0).eval x:=λx U=>by cases x with|tmp t=>have:=alM (a0:=a0) hap hu t (List.all_eq_true.1 J.1 _ U);simp only[Act.eval,Array.getD_eq_getD_getElem?,this]|_=>rfl);unfold Oper.wp at U ⊢;rw[alI aa al];exact alK (by rw[yI,yI]) (λv w' Y hv=>hK v w' Y hv) U);·rename_i ac;rw[if_neg ac]at M;exact M.symm
  ·(have aq:aq9 (upd j i c) ((l.map (·.dst)).take (i+1)) 0 a0=(aq9 j ((l.map (·.dst)).take i) 0 a0).put o.dst c:=by rw[List.take_add_one,show((l.map (·.dst))[i]?).toList= [o.dst] by simp[bW,Z],Yk];(have ap:((l.map (·.dst)).take i).length=i:=by simp;omega);rw[ap,aJ,show upd j i c i=c by simp[upd]];congr 1;exact O8 _ _ _ _ _ λd _ H=>by simp[upd];omega);refine Yl hap hB hr rest (i+1) (upd j i c) _ (by rw[<-List.tail_drop,hd];rfl) (λd H=>?_) (by simp[hl]) ag (by rw[aq];exact h2);by_cases N:d=i;(·subst N;rw[List.getElem?_append_right (by omega),hl];simp[upd]);·rw[dP (by omega),Ez d (by omega)];simp[upd,N]
def ah8 (P:Program) (l:List Oper):Bool:=decide (P.follows .mixedOrders=true)&&(arl (l.map (·.dst))&&(uO l.toArray&&alJ l.toArray))
theorem ara{id:Nat}{l:List Oper}{a:Act}(hc:ah8 P l=true)(h:gX P l.toArray w0 Q l a):(Code.region id l.toArray true).wp P Q a w0:=by simp only[ah8,bM,decide_eq_true_eq]at hc;exact iM (λu=>aq9 u (l.map (·.dst)) 0 a) (λ_=>rfl) hc.1 hc.2.2.1 hc.2.1 (Yl hc.2.1 hc.2.2.1 hc.2.2.2 l 0 (λ_=>undef) [] rfl (λj d=>by omega) rfl (aV _) h)
end
end
theorem alN{m:jl}(h:jE w t m)(A:Option Addr)(n c:Nat)(p:List St)(hp:fE gV w A p)(hn:p.length=n)(hl:n<=100):Calls aj 135 #[m.cells,.slice A n c] w λr w'=>r=.returned (.bool (Iw t p))/\w w':=by
 have J:Own w _ [_]:=(Own.nil w).alloc 27 m.cells _ rfl;have V:=ah hn;unfold jl.cells at*;go_enter func135,ntmps135;go_wp2;go_loopw [5] (λi wr=> ∃k:Nat,i=.int .i64 ((k:Int)+1)/\k<=n/\Hid (∀d a b,d<k->p[d]? =some a->p[d+1]? =some b->OY t a b=true)/\Own w wr [(w,27,#[.slice m.A1 m.n1 m.c1,.slice m.A2 m.n2 m.c2,.slice m.A3 m.n3 m.c3,.slice m.A4 m.n4 m.c4])]) (λi _=>n-(intOf i).toNat);case atStart=>exact⟨0,rfl,aV _,ah (λd a b hj=>by omega),J⟩
 case round=>
  obtain⟨k,rfl,H,ac,J⟩:=hrel;by_cases aq:k+1<n
  ·obtain⟨a,ha⟩:=aq5 V.out (show k<n by omega);obtain⟨b,hb⟩:=aq5 V.out (show k+1<n by omega);obtain⟨g,off,rfl,O,a0,a1⟩:=hp.st ha;obtain⟨g',ar,e,_,b0,b1⟩:=hp.st hb;simp only[aO,cZ]at e;obtain⟨rfl,rfl,-⟩:=e;have Rh:=λW (j:w W)=>(j.cell (p:=⟨g,off+k*2,none⟩) O).trans a0;have ae:=λW (j:w W)=>(j.cell (p:=⟨g,off+k*2+1,none⟩) O).trans a1;have af:=λW (j:w W)=>(j.cell (p:=⟨g,off+(k+1)*2,none⟩) O).trans b0;have ag:=λW (j:w W)=>(j.cell (p:=⟨g,off+(k+1)*2+1,none⟩) O).trans b1;have hm:=λW (j:w W)=>alG (h.below j) a b;have HA:=ah ha;have HB:=ah hb;cases U:OY t a b with
   |false=>rw[U]at hm;have HR:=ah (aiT HA.out HB.out U);obtain⟨x1,x2⟩:=a;obtain⟨y1,y2⟩:=b;simp only[qB,jl.cells]at hm Rh ae af ag;(have ad:decide ((k:Int)+1<(n:Int))=true:=by simp;omega);go_wp2;refine ara (by kernel_rfl) ?_;(repeat(first|(apply gX.want rfl;(·intro w' H ai Q' hK;have N:=J.grow H;have Z:=N.below;have an:=N.b0.cell;go_wp2_with((with_reducible refine(hm _ Z).mono ?_);rintro e w3⟨rfl,aa⟩);first|exact aH _ _|exact aa);(·simp only[aP,ay,aA,aB];rfl))));refine gX.nil ?_;intro w' H;have ak:=(J.grow H).below;go_wp2_with fail;go_ret;exact⟨by simp[HR.out],ak⟩
   |true=>rw[U]at hm;have am:=ah (λd a' Y (hj:d<k+1) (M:p[d]? =some a') (K:p[d+1]? =some Y)=>show OY t a' Y=true by rcases eu d k with g |g;(·exact ac.out d a' Y g M K);·(obtain rfl:d=k:=by omega);rw[HA.out]at M;rw[HB.out]at K;cases M;cases K;exact U);obtain⟨x1,x2⟩:=a;obtain⟨y1,y2⟩:=b;simp only[qB,jl.cells]at hm Rh ae af ag;(have ad:decide ((k:Int)+1<(n:Int))=true:=by simp;omega);go_wp2;refine ara (by kernel_rfl) ?_;(repeat(first|(apply gX.want rfl;(·intro w' H ai Q' hK;have N:=J.grow H;have Z:=N.below;have an:=N.b0.cell;go_wp2_with((with_reducible refine(hm _ Z).mono ?_);rintro e w3⟨rfl,aa⟩);first|exact aH _ _|exact aa);(·simp only[aP,ay,aA,aB];rfl))));refine gX.nil ?_;intro w' H;have al:=J.grow H;go_wp2_with fail;go_roundw;(case rel=>exact⟨k+1,by go_num,by omega,am,al⟩);case measure=>simp[intOf];omega
  ·(have ad:decide ((k:Int)+1<(n:Int))=false:=by simp;omega);have ap:=ah ((O5 t p).2 λd a b M K=>ac.out d a b (by have:=(aX.1 K).1;have:=V.out;omega) M K);go_wp2_with fail;go_ret;exact⟨by simp[ap.out],J.below⟩
theorem abP(t:Tp)(h:p[k]? =some s):arS t (p.take (k+1))=wrap64 (arS t (p.take k)+jS t s.edge):=by unfold arS;rw[take_snoc' h,List.foldl_append];rfl
theorem afD(h:p[k]? =some s)(d:iW t s.edge=false):ny t p=1:=by
 unfold ny;have:(p.all λs=>iW t s.edge)=false:=by grind
 rw[this];simp
theorem abQ(J:p≠ [])(K:p.length<=40)(H: ∀(d:Nat) (s:St),p[d]? =some s->iW t s.edge=true):ny t p=if Iw t p then 0 else 141:=by
 unfold ny;have:(p.all λs=>iW t s.edge)=true:=by rw[List.all_eq_true];intro s hm;obtain⟨d,j⟩:=List.getElem?_of_mem hm;exact H d s j
 rw[this,if_neg (by grind)];simp
theorem BL{t:Tp}{e:Int}(h:iW t e=true): ∃i:Nat,e=(i:Int)/\i<t.edges.length/\jS t e=t.edges[i]! :=by unfold iW at h;simp only[bM,decide_eq_true_eq]at h;obtain⟨i,rfl⟩:=Int.eq_ofNat_of_zero_le h.1;exact⟨i,rfl,by omega,by rfl⟩
theorem RQ{m:jl}(h:jE w t m)(A:Option Addr)(n c:Nat)(p:List St)(hp:fE gV w A p)(hn:p.length=n)(hl:n<=100):Calls aj 82 #[m.cells,.slice A n c] w λr w'=>r=.returned (.tuple #[(qc t p:Int),(ny t p:Int)])/\w w':=by
 have d:Own w _ [_]:=(Own.nil w).alloc 27 m.cells _ rfl;have K:=ah hn;have af:=d.b0.cell;by_cases hz:n=0;·subst hz;have ar:p= []:=dh.1 hn;subst ar;unfold jl.cells at*;go_enter func82,ntmps82;go_wp2;go_ret2;exact⟨by rfl,d.below⟩
 focus(
  by_cases aw:40<n;·(have hE:ny t p=1:=by unfold ny;rw[if_pos (by omega)]);(have hT:qc t p=0:=by unfold qc;rw[hE];rfl);have V:=ah hE;have Y:=ah hT;(have e1:((n:Int)==0)=false:=by grind);(have e2:decide (40<(n:Int))=true:=by grind);unfold jl.cells at*;go_enter func82,ntmps82;go_wp2;go_ret2;exact⟨by simp[V.out,Y.out],d.below⟩
  focus(
   (have e1:((n:Int)==0)=false:=by grind);(have e2:decide (40<(n:Int))=false:=by grind);unfold jl.cells at*;go_enter func82,ntmps82;go_wp2;go_loopw [6,19] (λs i wr=> ∃k:Nat,i=.int .i64 k/\k<=n/\s=.int .i64 (arS t (p.take k))/\Hid (∀(j:Nat) (s:St),j<k->p[j]? =some s->iW t s.edge=true)/\Own w wr [(w,27,#[.slice m.A1 m.n1 m.c1,.slice m.A2 m.n2 m.c2,.slice m.A3 m.n3 m.c3,.slice m.A4 m.n4 m.c4])]) (λ_ i _=>n-(intOf i).toNat);(case atStart=>exact⟨0,rfl,aV _,rfl,ah (λj a O=>by omega),d⟩);case' round=>
    obtain⟨k,rfl,hk,rfl,ae,d⟩:=hrel;have af:=d.b0.cell;by_cases aD:k<n
    ·obtain⟨s,U⟩:=aq5 K.out (show k<n by omega);obtain⟨g,off,rfl,hg,a0,a1⟩:=hp.st U;have Z:=λW (H:w W)=>(H.cell (p:=⟨g,off+k*2,none⟩) hg).trans a0;have ac:=λW (H:w W)=>(H.cell (p:=⟨g,off+k*2+1,none⟩) hg).trans a1;have Cm:=Z _ d.below;have CB:=ac _ d.below;have hm:=λW=>EG h s.edge W;have HS:=ah U;have HX:=ah (abP t U);cases M:iW t s.edge with
     |false=>have HR:=ah (afD U M);rw[M]at hm;obtain⟨x1,x2⟩:=s;simp only[jl.cells]at hm Z ac Cm CB;have J:=Own.new1 d 58 #[x1,x2];have ai:=J.b0.cell;have ak:=J.b1.cell;go_wp2_with(first|((with_reducible refine(hm _).mono ?_);rintro fU fJ⟨rfl,N⟩;replace d:=J.grow N));go_ret2;exact⟨by simp[HR.out,qc],d.below⟩
     |true=>rw[M]at hm;obtain⟨i,hi,ap,an⟩:=BL M;obtain⟨ge,CG,am,al,c0⟩:=h.lies.edges.int ap;have av:=λW (H:w W)=>(H.cell (p:=⟨ge,CG+i,none⟩) al).trans c0;have ax:=h.e1;(have az:i<m.n1:=by omega);have ag:=ah (λj s' (O:j<k+1) (h1:p[j]? =some s')=>show iW t s'.edge=true by rcases eu j k with g |g;(·exact ae.out j s' g h1);·(obtain rfl:j=k:=by omega);rw[HS.out]at h1;cases h1;exact M);rw[an]at HX;generalize t.edges[i]! =ev at*;obtain⟨x1,x2⟩:=s;simp only at hi;subst hi;generalize arS t (p.take k)=sm at*;simp only[jl.cells,am]at hm Z ac Cm CB d af ⊢;have J:=Own.new1 d 58 #[i,x2];have ai:=J.b0.cell;have ak:=J.b1.cell;go_wp2_with(first|((with_reducible refine(hm _).mono ?_);rintro fU fJ⟨rfl,N⟩;replace d:=J.grow N;have jQ:=d.b0.cell;have uK:=d.b1.cell;have sK:=av _ d.below));go_roundw;(case rel=>exact⟨k+1,by go_num,by omega,by rw[HX.out],ag,⟨d.below,λx hx=>d.blk x (by simp at hx;simp[hx]),by simp⟩⟩);case measure=>simp[intOf];omega
    focus((obtain rfl:k=n:=by omega);(have aq:p≠ []:=by rintro rfl;have:=K.out;simp at this;omega);have aa:=abQ aq (by rw[K.out];omega) (λj s O=>ae.out j s (by have:=(aX.1 O).1;have:=K.out;omega) O);have hm:=λW (H:w W)=>alN (h.below H) A k c p (hp.below H) K.out hl;(have au:arS t (p.take k)=arS t p:=by rw[aY (by rw[K.out];omega)]);rw[au];(have ad:qc t p=if ny t p=0 then arS t p else 0:=rfl);generalize arS t p=sm at*;rcases hw:Iw t p with _ |_;skip;rotate_left;skip)))
 all_goals(rw[hw]at hm aa;rw[aa]at ad;have V:=ah aa;have Y:=ah ad;simp only[jl.cells]at hm;go_wp2_with(first|((with_reducible refine(hm _ d.below).mono ?_);rintro fU fJ⟨rfl,N⟩;replace d:=d.grow N));go_ret2;exact⟨by simp[V.out,Y.out],d.below⟩)
end Go.Proofs.YthnmgjngniciaaaGreatDoor
