/- Parts. -/
import Derived.RangeFuncNested
import Derived.RangeFuncBound
import Derived.RangeFuncCalls
import Derived.RangeFuncLeaves
import Derived.RangeFuncFrom
import Derived.Shelf.Abstract
import Derived.Shelf.RegionOpen
import Derived.OwnWalkIn
import Derived.TacticsInMore
import Derived.LoopNIn
import Derived.LoopIn
import Derived.Test.YthnmgjngniciaaaGreatDoorM08
import Derived.Test.YthnmgjngniciaaaGreatDoorM01
import Derived.Test.YthnmgjngniciaaaGreatDoorChecked
import Derived.Laws.CopyOwn
import Derived.Test.YthnmgjngniciaaaGreatDoorM04
import Derived.Test.YthnmgjngniciaaaGreatDoorM03
import Derived.Sort.Grow
import Derived.Test.YthnmgjngniciaaaGreatDoorM05
set_option linter.all false
set_option maxHeartbeats 16000000
set_option maxRecDepth 8000
open BitVec renaming ofInt→aQ,ofNat→bT
open List renaming cons_append→bQ,eq_nil_of_length_eq_zero→dw,length_append→bC,length_cons→bK,length_nil→dU,map→bV,mem_cons→bJ,nil_append→aZ,not_mem_nil→dH,setIfInBounds_toArray→ay,set_cons_succ→aB,set_cons_zero→aA
open Nat renaming le_refl→aW,le_trans→aG,lt_of_lt_of_le→aU,mod_eq_of_lt→dF,reduceAdd→aT,zero_add→aJ,zero_le→aV
open Option renaming getD_some→eG,map_some→eF
open Option.some renaming injEq→aO
namespace Go.Proofs.YthnmgjngniciaaaGreatDoor
open Go.RowKit Go.Shelf Tryz
open Act renaming put→aP
open Below renaming heap_setCell→aN,refl→aH
open Lib renaming hid→ah
open Region renaming binds→aC
open Tryz renaming prog→aj,underlying45→dW
open Value renaming cells→aS
open Value.slice renaming injEq→dV
open World renaming setCell→dD
variable{ops:Array Oper}{S:wE}{width:Int}{bs:List UInt8}{K at_ c i p q:Nat}{s:Nat × Int}{A:Option Addr}{w w':World}
section
attribute [local go_sem] Oper.semAt_some
theorem acv(a:BitVec 64):aQ 64 18446744073709551615 ^^^ a= ~~~ a:=by rfl
@[go_sem] theorem afj (a:BitVec 64):Op.unary .xor (q64 a)=pure (q64 (~~~ a)):=by have h:Op.unary .xor (q64 a)=binOp .xor 0 (q64 (aQ 64 18446744073709551615)) (q64 a):=rfl;rw[h,afl,acv]
theorem afS(n:Nat)(h:n<18446744073709551616):Value.int .u64 (n:Int)=q64 (bT 64 n):=by unfold q64;rw[BitVec.toNat_ofNat,dF h]
theorem acw(k:K4)(x y:BitVec 32)(w:World):Calls aj 154 #[.agg #[q32 k.k0,q32 k.k1,q32 k.k2,q32 k.k3],q32 x,q32 y] w λe w'=>
    e=.returned (.agg #[q32 (arp k x y).k0,q32 (arp k x y).k1,q32 (arp k x y).k2,q32 (arp k x y).k3])/\w w':=by
  go_enter func154,ntmps154
  go_wp2_with (first
    |((with_reducible refine(acu _ _ _).mono ?_);rintro e H⟨rfl,d⟩;obtain⟨N,U⟩:=qG d;have Q:w.heap.size+1<H.heap.size:=by have:=d.size;simp at this;omega)
    |((with_reducible refine(acu _ _ _).mono ?_);rintro e J⟨rfl,j⟩;obtain⟨O,V⟩:=qG j;have Y:H.heap.size<=J.heap.size:=j.size;have Z:w.heap.size+1<J.heap.size:=by omega))
  have M:=gZ (iP (Ir d)) j
  refine bodyPost_ret (v:=.agg #[q32 (arp k x y).k0,q32 (arp k x y).k1,q32 (arp k x y).k2,q32 (arp k x y).k3]) ?_ rfl ⟨rfl,(((M.setCell (p:=⟨w.heap.size+1,0,none⟩) (by simp) _).setCell (p:=⟨w.heap.size+1,1,none⟩) (by simp) _).setCell (p:=⟨w.heap.size+1,2,none⟩) (by simp) _).setCell (p:=⟨w.heap.size+1,3,none⟩) (by simp) _⟩
  simp[results,results154,go_sem,N,O,Q]
  exact⟨rfl,rfl,rfl,rfl⟩
def mP (n₀ Bs:Nat) (W W':World):Prop:= ∀b,b<n₀\/b=Bs->W'.heap[b]? =W.heap[b]?
theorem mP.refl(j d:Nat)(W:World):mP j d W W:=λ_ _=>rfl
theorem mP.trans{j d:Nat}{X H J:World}(h:mP j d X H)(k:mP j d H J):mP j d X J:=λb M=>(k b M).trans (h b M)
theorem mP.cell{H d:Nat}{X j:World}(h:mP H d X j){b o:Nat}(J:b<H\/b=d):j.cell? ⟨b,o,none⟩=X.cell? ⟨b,o,none⟩:=World.cell?_of_block (a:=⟨b,o,none⟩) (h b J)
theorem mP.putObj{j d:Nat}{w:World}(J:j<=w.heap.size)(M:d<w.heap.size)(W:World)(l:Nat)(o H:Obj)(O:w.heap.size<=l)(_:W.heap[l]? =some o)(_:o.isCells=false)(_:o.isWalk=false):mP j d W (W.putObj l H):=λb N=>World.putObj_heap_other (by omega)
theorem mP.of_below{j d B:Nat}{W W':World}(h:Below B W W')(H:j<=B)(J:d<B):mP j d W W':=λb M=>h.block b (by omega)
theorem mP.setCell{j d:Nat}{W:World}{p:Addr}(H:j<=p.block)(J:d≠p.block)(u:Value):mP j d W (W.setCell p u):=λb M=>aN W p u b (by omega)
theorem Ws(A:Option Addr)(n c:Nat)(w:World):Calls aj 202 #[.slice A n c] w λe w'=>e=.returned (.func (.func 237) #[] #[.pointer w])/\w'=w.alloc (.cells #[.slice A n c] 45):=by go_enter func202,ntmps202;go_wp2;go_ret;simp
set_option maxRecDepth 100000 in
theorem Wu(n:Nat)(hn:1<=n)(l J Q:Nat)(A:Option Addr)(c:Nat)(bs:List UInt8)(H U:List (BitVec 64)->World->Prop)(Y : ∀ j x W, H j W → j.length < wX bs + 1 → YieldAt Fence.wide (n - 1) aj l #[q64 x] W λe W'=>
      (e =.returned true ∧ H (j ++ [x]) W' ∧ mP Q J W W') ∨ (e =.returned false ∧ U (j ++ [x]) W'))(W : World)(ac : W.cell? ⟨J, 0, none⟩ = some (.slice A bs.length c))(av : bs.length ≤ 65536)(hc : ∀ k, k < bs.length → ∃ b off, A = some ⟨b, off, none⟩ ∧ b < Q ∧ W.cell? ⟨b, off + k, none⟩ = some (q8 (nth bs k)))(h0 : H [] W):
    CallsIn Fence.wide n aj 237 #[.func (.yield l) #[] #[],.pointer J] W λe W'=>(∃v,e=.returned v)/\
      ((∃ Z, Z = pq bs ∧ H Z W') ∨ (∃ j, j <+: pq bs ∧ U j W')) := by
  refine callsIn_of_wp func237 rfl trivial ?_ rfl
  simp only[ntmps237,List.size_toArray,bK,dU,aT,Nat.reduceSub,Array.replicate_succ,Array.replicate_zero,List.push_toArray,List.append_toArray,aZ,bQ]
  obtain⟨fn,tmps,assign,body,hy,hR⟩:=Y [] (bT 64 bs.length) W h0 (by simp)
  have e1:=afS bs.length (by omega)
  gi_wp2
  refine hR.mono ?_
  rintro e W3 (⟨rfl,ad,ak⟩ |⟨rfl,af⟩)
  ·
    gi_wp2_with fail
    gi_loopw [3] (λv wr=> ∃d:Nat,d<=wX bs/\v=.int .i64 ((8*d:Nat):Int)/\H (jY bs d) wr/\mP Q J W wr) (λv _=>bs.length+8-(intOf v).toNat)
    case atStart=>exact⟨0,aV _,rfl,ad,ak⟩
    case round=>
      obtain⟨d,hj,rfl,V,O⟩:=hrel
      have ar:=(O.cell (o:=0) (.inr rfl)).trans ac
      by_cases ax:8*d<bs.length
      ·
        gi_wp2_with fail
        gi_loop [4,18] (λx i=> ∃m:Nat,m<=8/\i=.int .i64 m/\x=q64 (w8 bs (8*d) m)) (λ_ i=>8-(intOf i).toNat)
        case atStart=>exact⟨0,by omega,rfl,rfl⟩
        case round=>
          obtain⟨m,hm,rfl,rfl⟩:=hrel
          by_cases az:m<8
          ·
            by_cases N:8*d+m<bs.length
            ·
              obtain⟨b,off,rfl,hb,ai⟩:=hc (8*d+m) N
              have au:=(O.cell (.inl hb)).trans ai
              have M:=ah (Nr bs (8*d) m N)
              gi_wp2_with fail
              refine⟨⟨m+1,by omega,by go_num,by rw[M.out]⟩,by simp[intOf];omega⟩
            ·
              have M:=ah (F8 bs (8*d) m N)
              gi_wp2_with fail
              refine⟨⟨m+1,by omega,by go_num,by rw[M.out]⟩,by simp[intOf];omega⟩
          ·
            obtain rfl:m=8:=by omega
            have aw:=Iu bs d
            obtain⟨aq,am,an,ap,aD,ag⟩:=Y (jY bs d) (w8 bs (8*d) 8) wr V (by unfold wX;omega)
            gi_wp2_with fail
            refine ag.mono ?_
            rintro e W4 (⟨rfl,ae,al⟩ |⟨rfl,aa⟩)
            ·
              gi_wp2_with fail
              refine⟨⟨d+1,by unfold wX;omega,by go_num,by rw[CP];exact ae,O.trans al⟩,by simp[intOf];omega⟩
            ·
              gi_wp2_with fail
              refine bodyPost_ret (results_none rfl _ _ _) rfl ?_
              refine⟨⟨_,rfl⟩,.inr ⟨jY bs (d+1),?_,by rw[CP];exact aa⟩⟩
              exact zA bs (by unfold wX;omega)
      ·
        obtain rfl:d=wX bs:=by unfold wX at hj ⊢;omega
        gi_wp2_with fail
        go_end0
        exact⟨⟨_,rfl⟩,.inl ⟨_,rfl,V⟩⟩
  ·
    gi_wp2
    refine bodyPost_ret (results_none rfl _ _ _) rfl ?_
    exact⟨⟨_,rfl⟩,.inr ⟨jY bs 0,zA bs (aV _),af⟩⟩
theorem Py(n:Nat)(hn:1<=n)(d j:Nat)(A:Option Addr)(c:Nat)(bs:List UInt8)(w:World)(O:w.cell? ⟨d,0,none⟩=some (.slice A bs.length c))(ac:d<w.heap.size)(ad:j<=w.heap.size)(Z:bs.length<=65536)(hc : ∀ k, k < bs.length → ∃ b off, A = some ⟨b, off, none⟩ ∧ b < j ∧ w.cell? ⟨b, off + k, none⟩ = some (q8 (nth bs k))):
    SeqStopsK Fence.wide n aj 237 #[.pointer d] (λx:BitVec 64=> #[q64 x]) (mP j d) (λys=>ys=pq bs) (λaa=>aa <+: pq bs) (wX bs+1) w:=λl J M W H _ _ Q N=>
  Wu n hn l d j A c bs J M Q W ((H.cell (p:=⟨d,0,none⟩) (by show d<_;omega)).trans O) Z
    (λk Y=> by
      obtain⟨b,off,e,U,V⟩:=hc k Y
      exact⟨b,off,e,U,(H.cell (p:=⟨b,off+k,none⟩) (by show b<_;omega)).trans V⟩) N
theorem SG{W W':World}{row:Option Nat}{g:Nat}{t:TypeId}{cs:Array Value}(h:fK W g t cs)(j:W.grownBy W' row)(H: ∀r,row=some r-> ∃o:Obj,W.heap[r]? =some o/\o.isCells=false):fK W' g t cs:=h.grown j (λe=>by obtain⟨o,d,hc⟩:=H g e.symm;unfold fK at h;rw[h]at d;injection d with d;subst d;cases hc)
theorem EN{W W':World}(h:W W'):KeepsOthers W W':=KeepsOthers.of_grownBy (row:=none) ⟨h.os,h.tape,h.output,h.size,λk d _=>h.block k d⟩ (λ_ _ e=>by cases e)
set_option maxRecDepth 100000 in
theorem aib(k:K4)(A:Option Addr)(c:Nat)(bs:List UInt8)(w:World)(hb:aq2 w A c bs)(af:bs.length<=65536):Calls aj 153 #[.agg #[q32 k.k0,q32 k.k1,q32 k.k2,q32 k.k3],.slice A bs.length c] w λe w'=>e=.returned (q64 (Mac k bs))/\w w':=by
 refine(callsIn_wide (n:=5)).1 ?_;refine callsIn_of_wp_marks func153 rfl trivial ?_ rfl;simp only[ntmps153,List.size_toArray,bK,dU,aT,Nat.reduceSub,Array.replicate_succ,Array.replicate_zero,List.push_toArray,List.append_toArray,aZ,bQ];gi_wp2_with (refine⟨trivial,?_⟩;gi_at_call 202;refine(callsIn_wide.2 (Ws _ _ _ _)).mono ?_;rintro e w'⟨rfl,rfl⟩);obtain⟨d,M⟩:=fD ((w.alloc (.cells #[q32 k.k0,q32 k.k1,q32 k.k2,q32 k.k3] 32)).alloc (.cells #[.int .u64 0] 134));have ak:d.heap.size=w.heap.size+2:=by rw[M];simp
 have aa:w d:=by rw[M];exact((aH _ w).alloc ig _).alloc (by simp) _
 have ae:fK d w 32 #[q32 k.k0,q32 k.k1,q32 k.k2,q32 k.k3]:=by rw[M];exact(fK.new _ _ _).alloc _
 have ag:fK d (w.heap.size+1) 134 #[q64 (arw k 0 [])]:=by rw[M];exact fK.newAt _ _ _ _ (by simp)
 rw[<-M];have ac:(d.alloc (.cells #[.slice A bs.length c] 45)).cell? ⟨w.heap.size+1+1,0,none⟩=some (.slice A bs.length c):=(fK.newAt d 45 #[.slice A bs.length c] (w.heap.size+1+1) (by omega)).cell 0;have V:w (d.alloc (.cells #[.slice A bs.length c] 45)):=aa.alloc (by omega) _;refine wpIn_rangeFunc_ownF rfl (by omega) (gf:=237) (lb:= #[.pointer (some ⟨w.heap.size+1+1,0,none⟩)]) rfl trivial (enters_of func237 (by kernel_rfl) rfl) (Py _ (by omega) (w.heap.size+1+1) w A c bs (d.alloc (.cells #[.slice A bs.length c] 45)) ac (by simp;omega) (by simp;omega) af ?hc) mP.trans (mP.putObj (by simp;omega) (by simp;omega)) gY (λ_=>rfl) (λN W=>(fK W w 32 #[q32 k.k0,q32 k.k1,q32 k.k2,q32 k.k3]/\fK W (w.heap.size+1) 134 #[q64 (arw k 0 N)]/\w.heap.size+2<W.heap.size)/\w W) (λ_ _ _=>False) (OwnFrom.and (Own.from (λs X ai row J U Z=>⟨SG J.1 U Z,SG J.2.1 U Z,aU J.2.2 U.size⟩) _) (ownFrom_below ig (by simp;omega))) (λ_ _ _ _ _ J _ _=>J) ⟨⟨ae.alloc _,ag.alloc _,by simp;omega⟩,V⟩ (λx=>{tmps:= #[.agg #[q32 k.k0,q32 k.k1,q32 k.k2,q32 k.k3],.slice A bs.length c,.pointer w,undef,.int .u64 0,.pointer (some ⟨w.heap.size+1,0,none⟩),q64 x,.slice A bs.length c,.func (.func 237) #[] #[.pointer (some ⟨w.heap.size+1+1,0,none⟩)],q64 x,undef,undef,undef,undef,undef,undef],defers:= []}) ?assign ?body ?done ?stop;case hc=>intro i hi;obtain⟨b,off,e,Y,ad⟩:=hb.at_ hi;exact⟨b,off,e,Y,(V.cell (p:=⟨b,off+i,none⟩) Y).trans ad⟩
 case assign=>intro l x W K Q;gi_wp2;exact Q
 case body=>
  rintro l N x W⟨⟨O,H,h3⟩,hB⟩ _;have c1:=O.cell;have c2:=H.cell;have f2:=H.frozen;gi_wp2_with (refine⟨trivial,?_⟩;gi_at_call 203;refine(CallsIn.inRound l (callsIn_wide.2 (acu _ _ _))).mono ?_;rintro e W2⟨rfl,j⟩;obtain⟨d1,d2⟩:=qG j;have z2:w.heap.size+1<W.heap.size:=by omega);have hn:fK (W2.setCell ⟨w.heap.size+1,0,none⟩ (q64 (Enc k (arw k 0 N ^^^ x)))) (w.heap.size+1) 134 #[q64 (arw k 0 (N++ [x]))]:=by rw[VF];exact(H.below j H.lt).iV 0 _
  refine⟨(EN j).trans (KeepsOthers.setCell _ _ _),(mP.of_below j (by omega) (by omega)).trans (mP.setCell (by simp) (by simp) _),⟨(O.below j O.lt).far (p:=⟨w.heap.size+1,0,none⟩) (by simp) _,hn,?_⟩,(hB.trans (j.mono hB.size)).setCell (p:=⟨w.heap.size+1,0,none⟩) (by simp) _⟩;have:=j.size;simp[dD];omega
 case done=>rintro D ys W hD rfl⟨⟨O,H,h3⟩,hB⟩ Q;have c2:=H.cell;gi_wp2;refine⟨by simp,.inl ⟨_,_,rfl,run_takeDeferred Q,?_⟩⟩;exact⟨_,results_tmp rfl _ _ _,rfl,hB.trans (belowK_b (w:=w) ig W D _ _ (by simp at hD;omega) Q rfl rfl)⟩
 case stop=>rintro D c N W _ _ h _;exact h.elim
end
section
theorem Pz:(aj.info? 5).map (λi=>(i.zero,i.size,i.bytes))=some (some (.int .u8 0),1,1):=by kernel_rfl
def arn (w:World) (base:Nat) (A:Option Addr) (c:Nat) (bs:List UInt8):Prop:=w.ownsRow base 5 1 (.slice A bs.length c) bs.length (aq6 bs)
def arI (A:Option Addr):Option Nat:=A.map (·.block)
section
variable {w w':World} {base:Nat} {A:Option Addr} {c:Nat} {bs:List UInt8}
theorem arn.nil(w:World)(base:Nat):arn w base none 0 []:=World.ownsRow_nil w base _ 1
theorem arn.bytes(h:arn w base A c bs):aq2 w A c bs:=by
 rcases h.2 with⟨d,_⟩ |⟨J,H,cur,d,_⟩;·simp only[dV]at d;obtain⟨rfl,j,rfl⟩:=d;rw[dw j];exact aq2.nil _
 ·simp only[dV]at d;obtain⟨rfl,_,rfl⟩:=d;exact aq2.own h
theorem arn.below(h:arn w base A c bs)(d:w w'):arn w' base A c bs:=ar8 h d
theorem arn.alloc(h:arn w base A c bs)(o:Obj):arn (w.alloc o) base A c bs:=World.ownsRow.alloc h o
theorem arn.drew(h:arn w base A c bs):arn w.drew base A c bs:=h
theorem arn.drewN(h:arn w base A c bs)(n:Nat):arn (w.drewN n) base A c bs:=h
theorem oL(A:Option Addr)(n c:Nat):(Value.slice A n c).ownBlock=arI A:=by cases A <;> rfl
theorem arn.gJ(h:arn w base A c bs): ∀g,arI A=some g->base<=g/\g<w.heap.size:=by have:=World.ownsRow.lt h;rw[oL]at this;omega
theorem arn.addr(h:arn w base A c bs)(hn:0<bs.length): ∃g,A=some ⟨g,0,none⟩/\base<=g/\g<w.heap.size:=by obtain⟨g,cap,e,d,j⟩:=World.ownsRow.form h hn;grind
theorem arn.stored{g:Nat}(h:arn w base g c bs)(k:Nat)(x:UInt8):arn (w.setCell ⟨g,k,none⟩ (q8 x)) base g c (bs.set k x):=by have:=(World.ownsRow.stored h k (q8 x)).1;unfold arn;rw[List.length_set,show aq6 (bs.set k x)=(aq6 bs).set k (q8 x) by simp[aq6,List.map_set]];omega
end
section
variable {P:Program} {w:World}
theorem xJ{ops:Array Oper}{rest:List Oper}{o:Oper}{a:Act}{j:Exit->Act->World->Prop}(Q:o.guard=none)(s x:Operand)(Z:o.op=.call {callee:=.builtin .append,args:= #[s,x],argTypes:= #[45,45]})(base:Nat)(A1:Option Addr)(c1:Nat)(xs:List UInt8)(n1:Nat)(hs:a.eval s=.slice A1 n1 c1)(Y:n1=xs.length)(M:arn w base A1 c1 xs)(A:Option Addr)(c:Nat)(bs:List UInt8)(n:Nat)(hx:a.eval x=.slice A n c)(hn:n=bs.length)(hr:aq2 w A c bs)(ae:xs.length+bs.length<=140737488355328)(J:base<=w.heap.size)(h: ∀A2 c2 W,arn W base A2 c2 (xs++bs)->w.grownBy W (arI A1)->Below base w W->wpList aj ops j rest (a.put o.dst (.slice A2 (n1+n) c2)) W):wpList aj ops j (o::rest) a w:=by
 subst Y;subst hn;obtain⟨i0,U,aa,ac,ad⟩:=info_parts Pz;refine wF w Q s x 45 Z base 5 i0 _ 1 1 dW U aa ac ad rfl (by omega) _ _ _ hs M w A bs.length c (aq6 bs) hx (hr.row.reads (aq8 bs)) (tY bs) (by constructor<;>grind) (by omega) J ?_;intro v' W H d h3;rw[oL]at d;have O:Below base w W:=(aH base w).grown d J (λk V=>(M.gJ k V).1);have N: ∃A2 c2,v'=.slice A2 (xs.length+bs.length) c2:=by
  rcases H.2 with⟨e,h0⟩ |⟨g,cap,_,e,_⟩;·grind
  ·exact⟨_,_,e⟩
 obtain⟨A2,c2,rfl⟩:=N;refine h A2 c2 W ?_ d O;unfold arn;rw[bC,vJ];exact H
end
end
theorem ZB(h:rY w p bs at_ A c):Calls aj 168 #[.pointer p] w λe w'=>e=.returned at_/\w'=w:=by have d:=h.blk.cell;go_enter func168,ntmps168;go_wp2_with fail;go_ret;simp
def xK (n:Nat):Array Value:=madeCells (aS (.int .u8 0)) (n*1)
theorem vC(n:Nat):(xK n).size=n:=by unfold xK;rw[size_madeCells,Nat.mul_one]
theorem Gg(n:Nat)(hn:n<=65536)(w:World):(Instr.makeSlice 45 (n:Int) (n:Int)).run aj w=.ok (.slice w n n) (w.alloc (.cells (xK n) 5)):=by have hi:=Pz;cases h:aj.info? 5 with|none=>grind|some i=>rw[h]at hi;simp only[eF,aO,Prod.mk.injEq]at hi;obtain⟨d,j,H⟩:=hi;have:=run_makeSlice (P:=aj) w 45 5 i (.int .u8 0) dW h d .i64 .i64 n n (by omega) (Int.le_refl _) (by grind) (by grind) (by omega);rw[j]at this;assumption
def SH (w:World) (bs:List UInt8) (e:Ending) (w':World):Prop:= ∃p A c,e=.returned (.pointer (some ⟨p,0,none⟩))/\w.heap.size<=p/\rY w' p bs 0 A c/\(∀a,A=some a->w.heap.size<=a.block)/\w w'
theorem ai7(h:aq2 w A c bs)(hl:bs.length<=65536):Calls aj 165 #[.slice A bs.length c] w (SH w bs):=by
 have ag:=Gg bs.length hl;by_cases U:bs.length=0
 ·obtain rfl:=dw U;simp only[dU,show((0:Nat):Int)=0 from rfl] at*;have d:Own w _ [_,_]:=Own.iY w 5 308 (xK 0) #[.slice w 0 0,zI];have V:=d.b1.cell;go_enter func165,ntmps165;go_wp2_with(first|(refine wpList_copy_nothing rfl _ _ _ _ rfl 5 dW (by kernel_rfl) _ _ _ _ _ _ rfl rfl rfl ?_));go_ret;refine⟨w.heap.size+1,w.heap.size,0,rfl,by omega,⟨d.b1,⟨Row.nil _ _,aW _,aV _⟩,?_⟩,?_,d.below⟩;·simp
  simp
 ·have d:Own w _ [_,_]:=Own.iY w 5 308 (xK bs.length) #[.slice w bs.length bs.length,zI];have V:=d.b1.cell;have hA:=(h.below d.below);obtain⟨b,off,rfl,hb,_⟩:=h.at_ (k:=0) (by omega);have Q:=d.b0;have N:=ah (aq8 bs);have ae: ∀j v,(aq6 bs)[j]? =some v->((w.alloc (.cells (xK bs.length) 5)).alloc (.cells #[.slice w bs.length bs.length,zI] 308)).cell? ((⟨b,off,none⟩:Addr).add j)=some v:=by intro j v hj;(have ac:0<(aq6 bs).length:=by grind);obtain⟨b',ai,e,_,hc⟩:=hA.row ac;cases e;rw[Addr.add_lit];exact hc j v hj
  have aa: ∀v∈aq6 bs,v.oneCell'=true:=tY bs;have Y:(aq6 bs).length=Nat.min bs.length bs.length:=by rw[N.out];exact(Nat.min_self _).symm
  have Z:0+(aq6 bs).length<=(xK bs.length).size:=by rw[N.out,vC];omega
  have O:(aq6 bs++(xK bs.length).toList.drop bs.length).toArray=(aq6 bs).toArray:=by rw[List.drop_eq_nil_of_le (by simp[vC]),List.append_nil]
  generalize M:aq6 bs=cl at*;have H:=ah M;have J:=ah O;clear M O;go_enter func165,ntmps165;go_wp2_with(first|(refine wpList_copy_own rfl _ _ _ _ rfl 5 dW (by kernel_rfl) _ _ _ _ _ _ _ rfl rfl (xK bs.length) 5 Q cl Y ae Z aa ?_));go_ret;have af:=Q.row (aq6 bs).toArray;have ad:=d.b1.OW (k:=w.heap.size) (by omega) (aq6 bs).toArray;rw[<-H.out]at J;refine⟨w.heap.size+1,w.heap.size,bs.length,rfl,by omega,?_,?_,?_⟩;·rw[<-H.out,J.out];refine⟨ad,⟨?_,aW _,aG h.cap h.max⟩,?_⟩;(·have:=Row.block af;omega);simp
  ·simp
  ·exact jk d.below ig _
def zG (K:Nat) (S:wE) (i:Nat) (w w':World):Prop:=(i≠K->w w')/\(i=K->Stp S w w')
theorem zG.I7(h:zG K S i w w'):Stp S w w':=by
 by_cases e:i=K;·exact h.2 e
 ·exact Stp.of_below (h.1 e) S
theorem Ac(hi:i≠K)(h:w w'):zG K S i w w':=⟨λ_=>h,λe=>absurd e hi⟩
theorem oM(hi:i≠K):zG K S i w w:=Ac hi gY
theorem yN(h:Stp S w w'):zG K S K w w':=⟨λe=>absurd rfl e,λ_=>h⟩
def Wv (K:Nat) (P:World->Prop) (i:Nat) (w:World):Prop:=i=K->P w
theorem yO(i:Nat)(w:World):zG K S i w w:=⟨λ_=>aH _ _,λ_=>Stp.refl _ _⟩
def I8 (ops:Array Oper) (K:Nat) (S:wE) (j:Nat) (Ω:(Nat->Value)->World->Prop):Prop:= ∀i,i≠j->mY ops i j-> ∀u v w w',Ω u w->zG K S i w w'->Ω (upd u i v) w'
def StT (ops:Array Oper) (K:Nat) (S:wE):Nat->List ((Nat->Value)->World->Prop)->Prop
 |_,[]=>True
 |j,Ω::l=>I8 ops K S j Ω/\StT ops K S (j+1) l
theorem acy: ∀(l:List ((Nat->Value)->World->Prop)) (k:Nat),StT ops K S k l-> ∀j d,l[j]? =some d->I8 ops K S (k+j) d
 | [],_,_,j,d,h=>by simp at h
 |Ψ::l,k,h,0,d,hj=>by simp at hj;subst hj;exact h.1
 |Ψ::l,k,h,j+1,d,hj=>by have:=acy l (k+1) h.2 j d (by grind);grind
theorem yP{d:Nat}(c:Value):I8 ops K S d (gI d (Is c)):=λ_ j _ _ _ _ _ h _=>jy j h λ_ h=>h
theorem uZ{Φ:Value->World->Prop}(j: ∀v w w',Φ v w->w w'->Φ v w'):I8 ops K S K (gI K Φ):=λ_ d _ _ _ _ _ h H=>jy d h λ_ h=>j _ _ _ h (H.1 d)
theorem EO{H:List ((Nat->Value)->World->Prop)}(h:StT ops K S 0 H): ∀i d (j:(Nat->Value)->World->Prop),i≠d->i<H.length->mY ops i d->H[d]? =some j-> ∀u v w w',j u w->zG K S i w w'->j (upd u i v) w':=by intro i d j M _ J N u v W W' Q O;have:=acy _ 0 h d j N;rw[aJ]at this;exact this i M J u v W W' Q O
theorem Row.I7{xs:List Value}(h:Row w A xs)(j:Stp S w w')(hn: ∀a,A=some a-> ∀o,(a.block,o)∉S):Row w' A xs:=λJ=>by obtain⟨b,off,e,d,hc⟩:=h J;refine⟨b,off,e,aU d j.size,λM u H=>?_⟩;have:=j.block b d (hn _ e);rw[<-hc M u H];simp only[World.cell?,this]
theorem fE.I7{α:Type}{E:arb α}{xs:List α}(h:fE E w A xs)(d:Stp S w w')(hn: ∀a,A=some a-> ∀o,(a.block,o)∉S):fE E w' A xs:=Row.I7 h d hn
theorem aq2.I7(h:aq2 w A c bs)(d:Stp S w w')(hn: ∀a,A=some a-> ∀o,(a.block,o)∉S):aq2 w' A c bs:=⟨h.row.I7 d hn,h.cap,h.max⟩
theorem Tab.I7(h:Tab w)(d:Stp S w w')(hn: ∀k o,(k,o)∈S->k≠0):Tab w':=fE.I7 h d (λa e o hm=>by cases e;exact hn _ _ hm rfl)
structure xM (w:World) (q p:Nat) (bs:List UInt8) (s:Nat × Int) (A:Option Addr) (c:Nat):Prop where
  blk:fK w q 260 #[.pointer (some ⟨p,0,none⟩),.int .i64 s.2]
  rd:rY w p bs s.1 A c
  ne:q≠p
  far: ∀a,A=some a->a.block≠q
  tab:Tab w
  q0:q≠0
  p0:p≠0
  len:bs.length<=65536
  inn:s.1<=8*bs.length
theorem xM.below(h:xM w q p bs s A c)(d:w w'):xM w' q p bs s A c:={h with blk:=h.blk.below d h.blk.lt,rd:=h.rd.below d,tab:=h.tab.below d}
theorem Yx{n:Nat}(h:at_<=8*n):xH n at_ width<=8*n:=by
 unfold xH;by_cases d:uY n at_ width=0
 ·rw[if_pos d];unfold uY at d;split at d;·omega
  ·split at d <;> omega
 ·rw[if_neg d];exact h
def uo (bs:List UInt8) (s:Nat × Int) (v:Int):Nat × Int:=if s.2=0 then(xH bs.length s.1 (fQ v),uY bs.length s.1 (fQ v)) else s
def nD (bs:List UInt8) (s:Nat × Int) (v:Int):Nat:=if s.2=0 then EM bs s.1 (fQ v) else 0
def Ad (w:World) (q p:Nat) (bs:List UInt8) (s:Nat × Int) (A:Option Addr) (c:Nat) (v:Int) (e:Ending) (w':World):Prop:=e=.returned (.int .i64 (nD bs s v))/\Stp [(p,some 1),(q,some 1)] w w'/\xM w' q p bs (uo bs s v) A c
def acz (p:Nat) (bs:List UInt8) (at_:Nat) (A:Option Addr) (c:Nat) (width:Int) (v:Value) (w:World):Prop:=v=.tuple #[.int .i64 (EM bs at_ width),.int .i64 (uY bs.length at_ width)]/\rY w p bs (xH bs.length at_ width) A c
theorem acz.grow{v:Value}(h:acz p bs at_ A c width v w)(d:w w'):acz p bs at_ A c width v w':=⟨h.1,h.2.below d⟩
theorem Wx(h:xM w q p bs s A c)(v:Int):Calls aj 166 #[.pointer q,v] w (Ad w q p bs s A c v):=by
 obtain⟨at_,er⟩:=s;unfold Ad nD uo;have hB:=h.blk;have ae:=hB.cell;simp only at hB ae ⊢;by_cases Q:er=0
 ·subst Q;rw[if_pos rfl,if_pos rfl];have ad:=λW (V:Tab W)=>pF v W V;have ac:=λW (V:rY W p bs at_ A c)=>acj V h.len h.inn (fQ v);generalize fQ v=wd at*;unfold arR at ac;go_enter func166,ntmps166;go_wp2_with fail;apply gu (Stp ([(p,some 1)])) (λW=>Stp.drew _ _) (λ_ _ _ h1 h2=>h1.trans h2) (zG 6 ([(p,some 1)])) (λ_ _ _ h=>h.I7) yO (Wv 6 (λW=>rY W p bs at_ A c)) (λ_ _=>(λ(W W':World) (h:rY W p bs at_ A c) (J:W W')=>h.below J) _ _ (show rY w p bs at_ A c from h.rd) (aq3 gY 1)) (λi ar W W' ai hp ht e=>(λ(W W':World) (h:rY W p bs at_ A c) (J:W W')=>h.below J) _ _ (hp e) (ht.1 (λej=>ai (e.trans ej.symm))));case lX=>intro u;simp only[bV,aq9,aP,ay,aA,aB,aT,aJ];with_reducible rfl
  case hm=>kernel_rfl
  case hB=>kernel_rfl
  case hA=>kernel_rfl
  case hap=>kernel_rfl
  repeat(first
     |(refine fM.one (acz p bs at_ A c wd) ?_ ?_
       ·
         (intro u w' H M d
          replace M:=M rfl
          simp[fO,aC,gI,Is]at d
          refine fC ?_ ?_
          ·
            first
            |rfl
          intro K j
          go_wp2_with ((with_reducible refine(ac _ M).mono ?_);rintro e w3⟨rfl,am,ak⟩);(try simp only[d]at j);exact j _ _ (yN am) ⟨rfl,ak⟩))
     |(apply fM.is
       ·
         (intro u w' H M d
          simp[fO,aC,gI,Is]at d
          refine fC ?_ ?_
          ·
            first
            |rfl
          intro K j
          have af:=(H.blk hB (by simp[h.ne])).cell;have Z:=h.tab.I7 H (by simp[h.p0])
          go_wp2_with ((with_reducible refine(ad _ Z).mono ?_);rintro e w3⟨rfl,rfl⟩)
          try simp only[d]at j
          refine j _ _ ?_ rfl
          first |exact oM (by decide)))
     |(apply fM.is
       ·
         (intro u w' H M d
          simp[fO,aC,gI]at d
          first |(replace d:=d.1)
          refine fC ?_ ?_
          ·
            first
            |rfl
          intro K j
          have af:=(H.blk hB (by simp[h.ne])).cell;have Z:=h.tab.I7 H (by simp[h.p0])
          go_wp2_with ((with_reducible refine(ad _ Z).mono ?_);rintro e w3⟨rfl,rfl⟩)
          try simp only[d]at j
          refine j _ _ ?_ rfl
          first |exact oM (by decide))))
  refine fM.last (EO ?_) ?_;·simp only[gQ];(repeat(refine⟨?_,?_⟩;·first|exact yP _|exact uZ (λ_ _ _ h J=>h.grow J)));exact trivial
  intro u N Y _ d;simp only[gQ]at d;refine⟨rfl,?_⟩;intro K j;have h9:=d 9 _ rfl;have aa:=d 10 _ rfl;have U:=(d 6 _ rfl).2;simp only[gI,Is]at h9 aa;simp only[h9,aa];have O:=Y.blk hB (by simp[h.ne]);have aq:=O.frozen 1;have ap:=O.cell;have an:=h.tab.I7 Y (by simp[h.p0]);go_wp2_with fail;go_ret;have al:=(Y.mono (S':= [(p,some 1),(q,some 1)]) (by simp)).trans ((Stp.cell (w:=N) q 1 (uY bs.length at_ wd:Int)).mono (by simp));have ag: ∀k,k≠q->(N.setCell ⟨q,1,none⟩ (uY bs.length at_ wd:Int)).heap[k]? =N.heap[k]? :=λk H=>aN N ⟨q,1,none⟩ _ k H;refine⟨rfl,al,⟨?_,⟨U.blk.far (λe=>h.ne e.symm) _,U.bytes.apart O (by simp[is8]) (by simp[dD]) ag,U.far⟩,h.ne,h.far,?_,h.q0,h.p0,h.len,Yx h.inn⟩⟩;·simpa using O.iV 1 (uY bs.length at_ wd:Int)
  ·exact an.I7 (Stp.cell (w:=N) q 1 _) (by simp[h.q0])
 ·rw[if_neg Q,if_neg Q];have e1:(er != 0)=true:=by simpa using Q
  go_enter func166,ntmps166;go_wp2_with fail;go_ret;exact⟨rfl,Stp.refl _ _,h⟩
def sN (bs:List UInt8) (s:Nat × Int) (v:Int):Nat × Int:=if(uo bs s v).2=0/\uX v (nD bs s v)=false then((uo bs s v).1,20) else uo bs s v
def yQ (w:World) (q p:Nat) (bs:List UInt8) (s:Nat × Int) (A:Option Addr) (c:Nat) (v:Int) (e:Ending) (w':World):Prop:=e=.returned (.int .i64 (nD bs s v))/\Stp [(p,some 1),(q,some 1)] w w'/\xM w' q p bs (sN bs s v) A c
theorem SI(h:xM w q p bs s A c)(v:Int):Calls aj 167 #[.pointer q,v] w (yQ w q p bs s A c v):=by
 have M:=Wx h v;unfold yQ sN;unfold Ad at M;generalize uo bs s v=Z at*;generalize nD bs s v=n at*;obtain⟨aa,er⟩:=Z;simp only;by_cases N:er=0;·subst N;have J:=λW (U:Tab W)=>JG v n W U;cases hm:uX v n with|false=>rw[hm]at J;rw[if_pos ⟨rfl,rfl⟩];go_enter func167,ntmps167;go_wp2_with(first|((with_reducible refine M.mono ?_);rintro e Q⟨rfl,H,d⟩;have O:=d.blk.cell;have iG:=d.blk.frozen 1)|((with_reducible refine(J _ d.tab).mono ?_);rintro e j⟨rfl,rfl⟩));go_ret;have V: ∀k,k≠q->(j.setCell ⟨q,1,none⟩ (20:Int)).heap[k]? =j.heap[k]? :=λk Y=>aN j ⟨q,1,none⟩ _ k Y;refine⟨rfl,H.trans ((Stp.cell (w:=j) q 1 (20:Int)).mono (by simp)),⟨?_,⟨d.rd.blk.far (λe=>d.ne e.symm) _,d.rd.bytes.apart d.blk (by simp[is8]) (by simp[dD]) V,d.rd.far⟩,d.ne,d.far,?_,d.q0,d.p0,d.len,d.inn⟩⟩;(·simpa using d.blk.iV 1 (20:Int));·exact d.tab.I7 (Stp.cell (w:=j) q 1 _) (by simp[d.q0])|true=>rw[hm]at J;rw[if_neg (by simp)];go_enter func167,ntmps167;go_wp2_with(first|((with_reducible refine M.mono ?_);rintro e Q⟨rfl,H,d⟩;have O:=d.blk.cell)|((with_reducible refine(J _ d.tab).mono ?_);rintro e j⟨rfl,rfl⟩));go_ret;exact⟨rfl,H,d⟩
 ·rw[if_neg (by simp[N])];have e2:(er==0)=false:=by simpa using N
  go_enter func167,ntmps167;go_wp2_with(first|((with_reducible refine M.mono ?_);rintro e Q⟨rfl,H,d⟩;have O:=d.blk.cell));go_ret;exact⟨rfl,H,d⟩
theorem qw{α:Type}{E:arb α}{g:Nat}{t:TypeId}{cs:Array Value}{xs:List α}(h:fK w g t cs)(d:cs.toList=E.flat xs):fE E w g xs:=λ_=>⟨g,0,rfl,h.lt,λH u j=>by rw[aJ,h.cell,<-Array.getElem?_toList,d];exact j⟩
def PE (id:Int):Option (List Int × Int × List Int):=if id=2 then some ([8,95],-1,[]) else if id=3 then some ([],15,[3,5,21,27,57,58,80]) else if id=8\/id=137\/id=138\/id=146 then some ([2],-1,[]) else if id=9 then some ([],15,[5,80]) else if id=15 then some ([88,8,6,89,90],-1,[]) else if id=16\/id=18 then some ([88],-1,[]) else if id=24 then some ([],-1,[3,5,21,27,42,57,58]) else if id=32 then some ([92],-1,[]) else if id=33 then some ([8,89],15,[5,21,27,80]) else if id=34 then some ([8,89,6,72,28],-1,[]) else if id=38\/id=39\/id=40\/id=41\/id=43\/id=155\/id=156\/id=159 then some ([],-1,[]) else if id=129 then some ([],0,[11]) else if id=130\/id=136\/id=149\/id=150 then some ([],0,[]) else if id=132 then some ([94],0,[]) else if id=147 then some ([88,91],0,[]) else if id=157 then some ([93],0,[]) else none
def nG (id:Int):List Int × Int × List Int:=(PE id).getD ([],0,[])
structure ai8 (w w':World) (f:List Int × Int × List Int) (A1:Option Addr) (c1:Nat) (A3:Option Addr) (c3:Nat):Prop where
  own:fE aq7 w' A1 f.1
  may:fE aq7 w' A3 f.2.2
  q1:f.1.length<=c1
  q3:f.2.2.length<=c3
  f1: ∀a,A1=some a->w.heap.size<=a.block
  f3: ∀a,A3=some a->w.heap.size<=a.block
def Af (f:List Int × Int × List Int) (A1:Option Addr) (c1:Nat) (A3:Option Addr) (c3:Nat):Array Value:= #[.slice A1 f.1.length c1,.int .i64 f.2.1,.slice A3 f.2.2.length c3]
def Gh (w:World) (id:Int) (e:Ending) (w':World):Prop:= ∃A1 c1 A3 c3,e=.returned (.tuple #[.agg (Af (nG id) A1 c1 A3 c3),.bool (PE id).isSome])/\ai8 w w' (nG id) A1 c1 A3 c3/\w w'
theorem Wy{P:Program}{F:Func}{d:Ending->World->Prop}{x:Exit}{a:Act}{W:World}{L:List Bk}(j:Own w W L)(k:Own w W L->bodyPost P F d x a W):bodyPost P F d x a W:=k j
def asc:List Int:= [2,3,8,137,138,146,9,15,16,18,24,32,33,34,38,39,40,41,43,155,156,159,129,130,136,149,150,132,147,157]
theorem afT(id:Int)(w:World):Calls aj 155 #[.int .i64 id] w (Gh w id):=by
 by_cases h:id∈asc;case' pos=>simp only[asc,bJ,dH,or_false]at h;rcases h with rfl |rfl |rfl |rfl |rfl |rfl |rfl |rfl |rfl |rfl |rfl |rfl |rfl |rfl |rfl |rfl |rfl |rfl |rfl |rfl |rfl |rfl |rfl |rfl |rfl |rfl |rfl |rfl |rfl |rfl
 case' neg=>
  simp only[asc,bJ,dH,or_false,not_or]at h;have j:PE id=none:=by simp only[PE,h,or_self,if_false]
  have H:nG id=([],0,[]):=by unfold nG;rw[j];rfl
  simp only[<-beq_eq_false_iff_ne,ne_eq]at h;obtain⟨J,e1,e2,e3,e4,e5,e6,e7,e8,e9,M,N,O,Q,U,V,Y,Z,aa,ac,ad,ae,af,ag,ai,ak,al,am,an,ap⟩:=h
 all_goals(
  unfold Gh;first|(simp only[j,H,Af,Option.isSome_none];clear j H)|simp only[nG,PE,Af,Int.reduceEq,or_false,or_true,if_true,if_false,eG,Option.isSome_some]
  go_enter func155,ntmps155;go_wp2_with fail;first|refine Wy (Own.start3 w _ _ _ _ _ _) λd=>?_|refine Wy (Own.iY w _ _ _ _) λd=>?_|refine Wy ((Own.nil w).afy _ _) λd=>?_
  refine bodyPost_ret (gU results155 _ _ _ _ _ _ rfl rfl d.b0 underlying240 rfl (by kernel_rfl)) rfl ⟨_,_,_,_,rfl,⟨?_,?_,?_,?_,?_,?_⟩,d.below⟩;all_goals first|exact qw d.b1 rfl|exact qw d.b2 rfl|exact fE.nil _ _|decide|(intro a e;cases e <;> first |exact Nat.le_add_right _ 1 |exact Nat.le_add_right _ 2))
section
open Go.RowKit Go.Sort
def iZ (w w':World):Prop:= ∃(q:Nat) (os:Array Obj),w'=grow (w.drewN q) os
theorem iZ.refl(w:World):iZ w w:=⟨0,#[],by rfl⟩
theorem iZ.drewN(w:World)(n:Nat):iZ w (w.drewN n):=⟨n,#[],by simp⟩
theorem iZ.drew(w:World):iZ w w.drew:=⟨1,#[],by simp;rfl⟩
theorem iZ.trans{a b c:World}(h:iZ a b)(k:iZ b c):iZ a c:=by obtain⟨q,os,rfl⟩:=h;obtain⟨j,d,rfl⟩:=k;refine⟨q+j,os++d,?_⟩;show grow (grow ((a.drewN q).drewN j) os) d=_;rw[grow_grow,World.drewN_drewN]
theorem iZ.alloc(w:World)(o:Obj):iZ w (w.alloc o):=⟨0,#[o],by rfl⟩
theorem iZ.below{w w':World}(h:iZ w w'):w w':=by obtain⟨q,os,rfl⟩:=h;exact⟨rfl,rfl,rfl,by simp,λk d=>heap_grow_old (w.drewN q) os d⟩
def WB (x y:Int):Value->World->Prop:=fun v w=> ∃g,v=.slice (some ⟨g,0,none⟩) 2 2/\g<w.heap.size/\w.cell? ⟨g,0,none⟩=some (.int .i64 x)/\w.cell? ⟨g,1,none⟩=some (.int .i64 y)
theorem WB.keep{x y:Int}{v:Value}{w w':World}(h:WB x y v w)(M:iZ w w'):WB x y v w':=by obtain⟨g,e,j,H,J⟩:=h;have d:=M.below;exact⟨g,e,aU j d.size,(d.cell (p:=⟨g,0,none⟩) j).trans H,(d.cell (p:=⟨g,1,none⟩) j).trans J⟩
def I9 (ops:Array Oper) (j:Nat) (Φ:(Nat->Value)->World->Prop):Prop:= ∀i,i≠j->mY ops i j-> ∀u v w w',Φ u w->iZ w w'->Φ (upd u i v) w'
def StG (ops:Array Oper):Nat->List ((Nat->Value)->World->Prop)->Prop
 |_,[]=>True
 |j,Φ::l=>I9 ops j Φ/\StG ops (j+1) l
theorem acA{ops:Array Oper}: ∀(l:List ((Nat->Value)->World->Prop)) (k:Nat),StG ops k l-> ∀d Φ,l[d]? =some Φ->I9 ops (k+d) Φ
 | [],_,_,d,Φ,h=>by simp at h
 |Ψ::l,k,h,0,Φ,hj=>by simp at hj;subst hj;exact h.1
 |Ψ::l,k,h,d+1,Φ,hj=>by have:=acA l (k+1) h.2 d Φ (by grind);grind
theorem JH{ops:Array Oper}{d:Nat}(c:Value):I9 ops d (gI d (Is c)):=λ_ j _ _ _ _ _ h _=>jy j h λ_ h=>h
theorem Hz{ops:Array Oper}{d:Nat}{x y:Int}:I9 ops d (gI d (WB x y)):=λ_ j _ _ _ _ _ h H=>jy j h λ_ h=>WB.keep h H
theorem SK{ops:Array Oper}{j:List ((Nat->Value)->World->Prop)}(h:StG ops 0 j): ∀i d (Φ:(Nat->Value)->World->Prop),i≠d->i<j.length->mY ops i d->j[d]? =some Φ-> ∀u v w w',Φ u w->iZ w w'->Φ (upd u i v) w':=by intro i d Φ M _ J N u v W W' H O;have:=acA _ 0 h d Φ N;rw[aJ]at this;exact this i M J u v W W' H O
end
section
open Go.RowKit Go.Shelf Go.Sort
theorem ai9(s:Sp)(w:World):Calls aj 96 #[.agg #[s.edge,s.lo,s.hi]] w λe w'=>e=.returned (.bool (lG s))/\w w':=by
 have N:Own w _ [_]:=(Own.nil w).alloc 130 #[s.edge,s.lo,s.hi] _ rfl;have Y:=N.b0.cell;obtain⟨J,d,j⟩:=s;have H:lG ⟨J,d,j⟩=(decide (0<=J)&&decide (0<=d)&&decide (d<j)&&decide (j<=1000000)):=rfl;generalize lG ⟨J,d,j⟩=sb at*;simp only at N Y ⊢;by_cases O:0<=J;focus((have f1:decide (0<=J)=true:=by simpa using O);by_cases Q:0<=d;(focus((have M:decide (0<=d)=true:=by simpa using Q);by_cases U:d<j;(·(have f3:decide (d<j)=true:=by simpa using U);rw[f1,M,f3]at H;have V:=ah H;go_enter func96,ntmps96;go_wp2_with fail;go_ret;exact⟨by simp[V.out],N.below⟩);focus((have f3:decide (d<j)=false:=by simpa using U);obtain rfl:sb=false:=by rw[H,f1,M,f3];rfl)));rotate_left;focus((have M:decide (0<=d)=false:=by simpa using Q);obtain rfl:sb=false:=by rw[H,f1,M];rfl))
 rotate_left 2;focus((have f1:decide (0<=J)=false:=by simpa using O);obtain rfl:sb=false:=by rw[H,f1];rfl)
 all_goals(clear H;go_enter func96,ntmps96;go_wp2_with fail;go_ret;exact⟨rfl,N.below⟩)
theorem SL: ∀args w,(callFunc 95 args).run aj w=.ok (.enter 95 args) w:=enters_of func95 (by kernel_rfl) (by rfl)
theorem SN: ∀args w,(callFunc 98 args).run aj w=.ok (.enter 98 args) w:=enters_of func98 (by kernel_rfl) (by rfl)
theorem Yy(s:Sp)(w:World):Calls aj 95 #[.agg (iO.enc s).toArray] w λe w'=>e=.returned (.bool (!lG s))/\w w':=by have j:=λW=>ai9 s W;generalize lG s=sb at*;obtain⟨J,M,N⟩:=s;simp only[iO]at j ⊢;have d:Own w _ [_]:=(Own.nil w).alloc 130 #[J,M,N] _ rfl;have O:=d.b0.cell;go_enter func95,ntmps95;go_wp2_with(first|((with_reducible refine(j _).mono ?_);rintro e Q⟨rfl,H⟩;replace d:=d.grow H));go_ret;exact⟨rfl,d.below⟩
def IB (x y:Int):Int:=if x<y then -1 else if y<x then 1 else 0
theorem alS(x:Int)(w:World):Calls aj 148 #[x] w λe w'=>e=.returned false/\w'=w:=by go_enter func148,ntmps148;go_wp2_with fail;go_ret;exact⟨by simp,rfl⟩
theorem NP(x y:Int)(w:World):Calls aj 100 #[x,y] w λe w'=>e=.returned (IB x y:Int)/\w'=w:=by
 have hn:=λa W=>alS a W;unfold IB;by_cases d:x<y;focus((have f1:decide (x<y)=true:=by simpa using d);rw[if_pos d])
 rotate_left;focus((have f1:decide (x<y)=false:=by simpa using d);rw[if_neg d];by_cases j:y<x;(focus((have H:decide (y<x)=true:=by simpa using j);rw[if_pos j]));rotate_left;focus((have H:decide (y<x)=false:=by simpa using j);rw[if_neg j]))
 all_goals(go_enter func100,ntmps100;go_wp2_with(first|((with_reducible refine(hn _ _).mono ?_);rintro e J⟨rfl,rfl⟩));go_ret;exact⟨rfl,rfl⟩)
def orI (x y:Int):Int:=if x≠0 then x else y
theorem alT(g c:Nat)(x y:Int)(w:World)(H:w.cell? ⟨g,0,none⟩=some x)(J:w.cell? ⟨g,1,none⟩=some y):Calls aj 99 #[.slice g 2 c] w λe w'=>e=.returned (orI x y:Int)/\w'=w:=by
 unfold orI;by_cases d:x=0
 ·rw[if_neg (by simpa using d)];have e1:(x != 0)=false:=by simpa using d
  by_cases j:y=0;·(have e2:(y != 0)=false:=by simpa using j);subst d;subst j;go_enter func99,ntmps99;go_wp2_with fail;refine wp_loop_rounds 3 ?_;rw[rounds_succ];go_wp2_with fail;rw[rounds_succ];go_wp2_with fail;rw[rounds_succ];go_wp2_with fail;go_ret;exact⟨rfl,rfl⟩
  ·(have e2:(y != 0)=true:=by simpa using j);subst d;go_enter func99,ntmps99;go_wp2_with fail;refine wp_loop_rounds 2 ?_;rw[rounds_succ];go_wp2_with fail;rw[rounds_succ];go_wp2_with fail;go_ret;exact⟨rfl,rfl⟩
 ·rw[if_pos d];have e1:(x != 0)=true:=by simpa using d
  go_enter func99,ntmps99;go_wp2_with fail;refine wp_loop_rounds 1 ?_;rw[rounds_succ];go_wp2_with fail;go_ret;exact⟨rfl,rfl⟩
def WC (a b:Sp):Int:=orI (IB a.edge b.edge) (IB a.lo b.lo)
def asa (A:Option Addr):Option Nat:=A.map (·.block)
theorem H6{w W W':World}{g:Nat}(h:w.grownBy W (some g))(J:W'.heap.size=W.heap.size)(H: ∀k,k≠g->W'.heap[k]? =W.heap[k]?)(d:W'.os=W.os/\W'.tape=W.tape/\W'.output=W.output):w.grownBy W' (some g):=⟨d.1.trans h.os,d.2.1.trans h.tape,d.2.2.trans h.output,by rw[J];exact h.size,λi hi j=>(H i (λe=>j (by rw[e]))).trans (h.block i hi j)⟩
theorem yR{w W W':World}{r:Option Nat}(h:w.grownBy W r)(d:W W'):w.grownBy W' r:=⟨d.os.trans h.os,d.tape.trans h.tape,d.output.trans h.output,aG h.size d.size,λi hi j=>(d.block i (aU hi h.size)).trans (h.block i hi j)⟩
theorem aq1.base{α:Type}{E:arb α}{t:TypeId}{w:World}{B d:Nat}{A:Option Addr}{c:Nat}{xs:List α}(h:aq1 E t w B A c xs)(hB:d<=B):aq1 E t w d A c xs:=⟨h.1,h.2.imp id λ⟨g,cap,cur,e,j,r⟩=>⟨g,cap,cur,e,aG hB j,r⟩⟩
theorem aro{α:Type}{E:arb α}{t:TypeId}{B:Nat}{w0 w w':World}{A:Option Addr}{c:Nat}{xs:List α}(h:Below B w0 w)(H:aq1 E t w B A c xs)(M:B<=w.heap.size)(d:w.grownBy w' (asa A)):Below B w0 w':=by
 refine h.trans ⟨d.os,d.tape,d.output,d.size,λk N=>d.block k (by omega) λe=>?_⟩;cases A with
 |none=>cases e
 |some a=>obtain⟨g,cur,j,J,_⟩:=H.blk (by simp);simp only[aO]at j;subst j;simp only[asa,eF,aO]at e;omega
theorem xO{w:World}{g:Nat}{a b c:Int}(h:fK w g 130 #[a,b,c]):fE iO w g [⟨a,b,c⟩]:=λ_=>⟨g,0,rfl,h.lt,λj u d=>by rw[aJ,h.cell,<-Array.getElem?_toList];exact d⟩
theorem Own.grown{w W W':World}{L:List Bk}{R:Option Nat}(h:Own w W L)(d:W.grownBy W' R)(H: ∀g,R=some g->w.heap.size<=g/\ ∀x∈L,x.1≠g):Own w W' L:=by
 refine⟨h.below.trans ⟨d.os,d.tape,d.output,d.size,λk M=>d.block k (aU M h.below.size) ?_⟩,λx j=>⟨(h.blk x j).1,?_⟩,h.nodup⟩;·intro e;have:=(H k (by first |exact e.symm)).1;omega
 ·have J:=(h.blk x j).2;exact(d.block x.1 J.lt (λe=>(H x.1 (by first |exact e.symm)).2 x j rfl)).trans J
end
end Go.Proofs.YthnmgjngniciaaaGreatDoor
