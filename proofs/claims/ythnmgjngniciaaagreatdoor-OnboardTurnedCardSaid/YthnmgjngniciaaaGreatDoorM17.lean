/- Parts. -/
import Derived.Test.YthnmgjngniciaaaGreatDoorM12
import Derived.Test.YthnmgjngniciaaaGreatDoorM09
import Derived.Lib.Hide
import Derived.WalkSpells
import Derived.Test.YthnmgjngniciaaaGreatDoorChecked
import Derived.Test.YthnmgjngniciaaaGreatDoorM14
import Derived.Test.YthnmgjngniciaaaGreatDoorM16
set_option linter.all false
set_option maxHeartbeats 16000000
set_option maxRecDepth 8000
open Bool renaming and_eq_true→bM,false_eq_true→bU
open List renaming cons_append→bQ,length_append→bC,map→bV,mem_append→dK,mem_cons→bJ,mem_of_getElem?→bP,nil_append→aZ,not_mem_nil→dH,setIfInBounds_toArray→ay,set_cons_succ→aB,set_cons_zero→aA,take_of_length_le→aY
open Nat renaming add_zero→bI,le_of_eq→bZ,le_refl→aW,le_trans→aG,lt_of_lt_of_le→aU,reduceAdd→aT,zero_add→aJ,zero_le→aV
open Option renaming map_some→eF
open Option.some renaming injEq→aO
namespace Go.Proofs.YthnmgjngniciaaaGreatDoor
open Go.RowKit Go.Shelf Tryz
open Act renaming put→aP
open Below renaming heap_setCell→aN,refl→aH
open Lib renaming hid→ah
open Region renaming binds→aC
open Tryz renaming prog→aj,underlying45→dW
open Value.slice renaming injEq→dV
open World renaming setCell→dD
variable{n:Int}{l:List (Int × Int)}{b bs:List UInt8}{s:List UInt8 × Nat}{B N base c c2 g p u:Nat}{T:Nat->Prop}{A A2:Option Addr}{v:Value}{W w w':World}
def arB (s:List UInt8 × Nat) (b:Bool):List UInt8 × Nat:=let l:=if s.2 % 8=0 then s.1++ [0] else s.1;(if b=true then l.set (s.2 / 8) (nth l (s.2 / 8) ||| Iz 128 (s.2 % 8)) else l,s.2+1)
def ZT (n k:Nat):Bool:=decide (n / 2 ^ k % 2=1)
def DX (s:List UInt8 × Nat) (n:Nat):Nat->List UInt8 × Nat
 |0=>s
 |k+1=>DX (arB s (ZT n k)) n k
theorem agh(s:List UInt8 × Nat)(b:Bool):(arB s b).2=s.2+1:=rfl
theorem ZU{b:Bool}(h:s.1.length=(s.2+7) / 8):(arB s b).1.length=((arB s b).2+7) / 8:=by
 unfold arB;simp only;have d:(if s.2 % 8=0 then s.1++ [0] else s.1).length=(s.2+1+7) / 8:=by grind
 cases b with|false=>grind|true=>grind
theorem Xf(n:Nat): ∀(k:Nat) (s:List UInt8 × Nat),(DX s n k).2=s.2+k
 |0,s=>rfl
 |k+1,s=>by rw[DX,Xf n k,agh];omega
theorem TQ(n:Nat): ∀(k:Nat) (s:List UInt8 × Nat),s.1.length=(s.2+7) / 8->(DX s n k).1.length=((DX s n k).2+7) / 8
 |0,s,h=>h
 |k+1,s,h=>TQ n k _ (ZU h)
structure Ku (p B:Nat) (s:List UInt8 × Nat) (A:Option Addr) (c:Nat) (T:Nat->Prop) (w:World):Prop where
  foot: ∀k,T k<->(k=p\/A.map (·.block)=some k)
  blk:fK w p 304 #[.slice A s.1.length c,.int .i64 s.2]
  own:arn w B A c s.1
  pB:p<B
  size:B<=w.heap.size
  len:s.1.length=(s.2+7) / 8
def ZV (p B:Nat) (s:List UInt8 × Nat) (T:Nat->Prop) (w:World):Prop:= ∃A c,Ku p B s A c T w
theorem Ku.below(h:Ku p B s A c T w)(d:w w'):Ku p B s A c T w':={h with blk:=h.blk.below d h.blk.lt,own:=h.own.below d,size:=aG h.size d.size}
theorem arn.stay(h:arn w base A c bs)(J: ∀k,k≠g->w'.heap[k]? =w.heap[k]?)(K:arI A≠some g):arn w' base A c bs:=by
 refine⟨h.1,?_⟩;rcases h.2 with M |⟨k,cap,cur,e,d,j,H⟩;·grind
 ·have hA:arI A=some k:=by simp only[dV]at e;rw[e.1];rfl
  exact .inr ⟨k,cap,cur,e,d,(J k (λe=>K (by grind))).trans j,H⟩
theorem Kv(h:fK w g 5 #[.int .u8 0]):aq2 w g 1 [0]:=⟨λ_=>⟨g,0,rfl,h.lt,λj u d=>by rw[aJ,h.cell,<-Array.getElem?_toList];exact d⟩,by simp,by simp[maxLen]⟩
theorem Ku.grown{W2:World}(h:Ku p B (b,u) A c T w)(d:w.grownBy W2 (arI A))(J:arn W2 B A2 c2 (b++ [0]))(hA:A2.map (·.block)=A.map (·.block)\/ ∃g,A2.map (·.block)=some g/\w.heap.size<=g): ∃T',Ext T w T' (W2.setCell ⟨p,0,none⟩ (.slice A2 (b.length+1) c2))/\(∀k,T' k<->(k=p\/A2.map (·.block)=some k))/\fK (W2.setCell ⟨p,0,none⟩ (.slice A2 (b.length+1) c2)) p 304 #[.slice A2 (b++ [0]).length c2,u]/\arn (W2.setCell ⟨p,0,none⟩ (.slice A2 (b.length+1) c2)) B A2 c2 (b++ [0])/\B<=(W2.setCell ⟨p,0,none⟩ (.slice A2 (b.length+1) c2)).heap.size:=by
 have V:arI A≠some p:=λe=>by have:=(h.own.gJ p e).1;have:=h.pB;omega
 have Q:fK W2 p 304 #[.slice A b.length c,u]:=(d.block p h.blk.lt (λe=>V e.symm)).trans h.blk;have M: ∀k,k≠p->(W2.setCell ⟨p,0,none⟩ (.slice A2 (b.length+1) c2)).heap[k]? =W2.heap[k]? :=λk j=>aN W2 ⟨p,0,none⟩ _ k j;have K:(W2.setCell ⟨p,0,none⟩ (.slice A2 (b.length+1) c2)).heap.size=W2.heap.size:=by simp[dD]
 refine⟨λk=>k=p\/A2.map (·.block)=some k,⟨d.os,d.tape,d.output,by rw[K];exact d.size,λk O H=>(M k (λe=>H ((h.foot k).2 (.inl e)))).trans (d.block k O (λe=>H ((h.foot k).2 (.inr e.symm)))),λk j=>?_⟩,λk=>Iff.rfl,?_,?_,by rw[K];exact aG h.size d.size⟩
 ·rcases j with e |e;·exact .inl ((h.foot k).2 (.inl e))
  ·rcases hA with hA |⟨g,hA,U⟩;(·exact .inl ((h.foot k).2 (.inr (hA▸e))));·rw[hA]at e;injection e with e;exact .inr (e▸U)
 ·rw[bC];exact Q.iV 0 _
 ·exact arn.stay J M (λe=>by have:=(J.gJ p e).1;have:=h.pB;omega)
theorem wO{K:Array Oper}{rest:List Oper}{o:Oper}{a:Act}{j:Exit->Act->World->Prop}(Q:o.guard=none)(s x:Operand)(Y:o.op=.call {callee:=.builtin .append,args:= #[s,x],argTypes:= #[45,45]})(base:Nat)(A1:Option Addr)(c1:Nat)(xs:List UInt8)(n1:Nat)(hs:a.eval s=.slice A1 n1 c1)(V:xs.length=n1)(Z:arn w base A1 c1 xs)(A:Option Addr)(c:Nat)(bs:List UInt8)(n:Nat)(hx:a.eval x=.slice A n c)(hn:bs.length=n)(hr:aq2 w A c bs)(ae:n1+n<=140737488355328)(O:base<=w.heap.size)(h: ∀A2 c2 W,arn W base A2 c2 (xs++bs)->w.grownBy W (arI A1)->(A2.map (·.block)=A1.map (·.block)\/A2.map (·.block)=some w.heap.size)->wpList aj K j rest (a.put o.dst (.slice A2 (n1+n) c2)) W):wpList aj K j (o::rest) a w:=by
 subst V;subst hn;obtain⟨i0,U,aa,ac,ad⟩:=info_parts Pz;refine wF w Q s x 45 Y base 5 i0 _ 1 1 dW U aa ac ad rfl (by omega) _ _ _ hs Z w A bs.length c (aq6 bs) hx (hr.row.reads (aq8 bs)) (tY bs) (by constructor<;>grind) (by omega) O ?_;intro v' W H J d;rw[oL]at J d;have M: ∃A2 c2,v'=.slice A2 (xs.length+bs.length) c2:=by
  rcases H.2 with⟨e,h0⟩ |⟨g,cap,_,e,_⟩;·exact⟨none,0,by grind⟩
  ·exact⟨_,_,e⟩
 obtain⟨A2,c2,rfl⟩:=M;rw[oL]at d;refine h A2 c2 W ?_ J d;unfold arn;rw[bC,vJ];exact H
theorem aoy(n k:Nat):n / 2 ^ k % 2=if ZT n k=true then 1 else 0:=by
 unfold ZT;by_cases h:n / 2 ^ k % 2=1;·simp[h]
 ·grind
structure WrX (p B:Nat) (l:List UInt8) (u:Nat) (A:Option Addr) (c:Nat) (T:Nat->Prop) (W:World):Prop where
  foot: ∀k,T k<->(k=p\/A.map (·.block)=some k)
  blk:fK W p 304 #[.slice A l.length c,.int .i64 u]
  own:arn W B A c l
  pB:p<B
  size:B<=W.heap.size
theorem WrX.below{l:List UInt8}(h:WrX p B l u A c T w)(d:w w'):WrX p B l u A c T w':={h with blk:=h.blk.below d h.blk.lt,own:=h.own.below d,size:=aG h.size d.size}
theorem WrX.counted{l:List UInt8}(h:WrX p B l u A c T W)(J:l.length=(u+1+7) / 8):Ku p B (l,u+1) A c T (W.setCell ⟨p,1,none⟩ (.int .i64 ((u:Int)+1)))/\Ext T W T (W.setCell ⟨p,1,none⟩ (.int .i64 ((u:Int)+1))):=by
 have H: ∀k,k≠p->(W.setCell ⟨p,1,none⟩ (.int .i64 ((u:Int)+1))).heap[k]? =W.heap[k]? :=λk d=>aN W ⟨p,1,none⟩ _ k d;have j:(W.setCell ⟨p,1,none⟩ (.int .i64 ((u:Int)+1))).heap.size=W.heap.size:=by simp
 refine⟨{foot:=h.foot,blk:=?_,own:=arn.stay h.own H (λe=>by have:=(h.own.gJ p e).1;have:=h.pB;omega),pB:=h.pB,size:=by rw[j];exact h.size,len:=J},⟨rfl,rfl,rfl,bZ j.symm,λk _ d=>H k (λe=>d ((h.foot k).2 (.inl e))),λk d=> .inl d⟩⟩;have:=h.blk.iV 1 (.int .i64 ((u:Int)+1));grind
theorem arn.cells(h:arn w base A c bs)(H:0<bs.length): ∃g cur,A=some ⟨g,0,none⟩/\fK w g 5 cur/\base<=g:=by
 rcases h.2 with⟨_,e⟩ |⟨g,cap,cur,e,d,j,_⟩;·omega
 ·simp only[dV]at e;exact⟨g,cur,e.1,j,d⟩
theorem WrX.stored{l:List UInt8}(h:WrX p B l u g c T W)(q:Nat)(x:UInt8):WrX p B (l.set q x) u g c T (W.setCell ⟨g,q,none⟩ (q8 x))/\Ext T W T (W.setCell ⟨g,q,none⟩ (q8 x)):=by
 have H:g≠p:=λe=>by have:=(h.own.gJ g rfl).1;have:=h.pB;omega
 have j:(W.setCell ⟨g,q,none⟩ (q8 x)).heap.size=W.heap.size:=by simp[dD]
 exact⟨{foot:=h.foot,blk:=by rw[List.length_set];exact h.blk.far (p:=⟨g,q,none⟩) H.symm _,own:=h.own.stored q x,pB:=h.pB,size:=by rw[j];exact h.size},⟨rfl,rfl,rfl,bZ j.symm,λk _ d=>aN W ⟨g,q,none⟩ _ k (λe=>d ((h.foot k).2 (.inr (by rw[e];rfl)))),λk d=> .inl d⟩⟩
theorem Ku.x(h:Ku p B (b,u) A c T w):WrX p B b u A c T w:=⟨h.foot,h.blk,h.own,h.pB,h.size⟩
theorem ada(r:Nat)(d:r<=7):binOp .shr 5 (.int .u8 128) (r:Int)=pure (q8 (Iz 128 r)):=by have:=aci 5 128 .i64 (r:Int) (by omega) (by omega);rw[Int.toNat_natCast]at this;exact this
theorem amc(h:ZV p B s T w)(n H:Nat)(bX:1<=H)(bA:H<=32)(hn:n<2 ^ H)(hf:s.2+H<=8184):Calls aj 210 #[.pointer p,n,H] w λe w'=>e=.returned zI/\ ∃T',Ext T w T' w'/\ZV p B (DX s n H) T' w':=by
 obtain⟨A,c,h⟩:=h;have ak:=h.blk.cell;have bm:(n:Int) / 2 ^ H=0:=Int.ediv_eq_zero_of_lt (by omega) (by exact_mod_cast hn);have bb:n<4294967296:=aU hn (by have:=Nat.pow_le_pow_right (n:=2) (by decide) bA;omega);have d3:decide ((8184:Int)<(s.2:Int)+(H:Int))=false:=by simp;omega
 have d1:decide ((H:Int)<1)=false:=by simp;omega
 have d2:decide ((32:Int)<(H:Int))=false:=by simp;omega
 have dn:decide ((n:Int)<0)=false:=by simp
 clear hn;go_enter func210,ntmps210;go_wp2_with fail;go_loopw [7] (λi wr=> ∃(ap:Nat) (b:List UInt8) (d:Nat) (U:Option Addr) (c':Nat) (T':Nat->Prop),i=.int .i64 ((ap:Int)-1)/\ap<=H/\Ku p B (b,d) U c' T' wr/\Ext T w T' wr/\Hid (DX s n H=DX (b,d) n ap/\d+ap=s.2+H)) (λi _=>(intOf i+1).toNat);case atStart=>exact⟨H,s.1,s.2,A,c,T,rfl,aW _,h,Ext.refl _ _,ah ⟨rfl,rfl⟩⟩
 case round=>
  clear h ak;obtain⟨ap,b,d,U,c',T',rfl,hj,h,hE,hI⟩:=hrel;cases ap with
  |zero=>simp only[Int.natCast_zero,Int.zero_sub] at*;go_wp2_with fail;go_ret;exact⟨rfl,T',hE,by rw[hI.out.1];exact⟨U,c',h⟩⟩
  |succ k=>
   (have ek:(((k+1:Nat):Int)-1)=(k:Int):=by omega);rw[ek];(have bO:k<=31:=by omega);(have hu:d+(k+1)<=8184:=by have:=hI.out.2;omega);obtain⟨m,hm⟩:=fD (n / 2 ^ k);(have bR:(n:Int) / 2 ^ k=(m:Int):=by rw[hm];push_cast;rfl);(have bE:m<4294967296:=by rw[hm];exact Nat.lt_of_le_of_lt (Nat.div_le_self _ _) bb);have ax:=Zz 3 (m:Int) (by omega) (by omega);have aa:Hid (m % 2=if ZT n k=true then 1 else 0):=ah (by rw[hm];exact aoy n k);have au:Hid (DX s n H=DX (arB (b,d) (ZT n k)) n k):=ah hI.out.1;have bN:=hI.out.2;have Y:=h.blk;have ak:=Y.cell;have bq:=Y.frozen;obtain⟨a9,hb⟩:=fD (ZT n k);rw[<-hb]at aa au;clear ek hm hb hI bb d1 d2 dn d3 bm;obtain⟨r,P9⟩:=fD (d % 8);(have hr:(d:Int) % 8=(r:Int):=by omega);have Z:=ah P9;by_cases h8:r=0
   ·(have f8:((r:Int)==0)=true:=by rw[beq_iff_eq];omega);have K:=ah h8;(have Gv:r<=7:=by omega);have ar:=h.len;simp only at ar;obtain⟨z,hz⟩:=fD b.length;have V:=ah hz;have a1:Hid (z=d / 8):=ah (by omega);(have ca:z<=1100:=by omega);have bS:=h.size;simp only at ak Y;rw[<-hz]at ak Y;have HH:=ah h;have aE:=h.own;simp only at aE;clear h8 P9 ar;cases a9 with
    |false=>have ai:m % 2=0:=aa.out;(have M:(m:Int) % 2=0:=by omega);rw[M]at ax;clear aa ai M h hz;go_wp2_with(at_builtin;refine wO rfl _ _ rfl B U c' b z rfl V.out.symm (aE.alloc _) wr 1 [0] 1 rfl rfl (Kv (fK.new _ _ _)) (by omega) (by simp;omega) ?_;intro A2 c2 W2 aD az aw;have am:=lN (arj ((aH wr wr).alloc ig (.cells #[.int .u8 0] 5)) (arI U)) az;have an:fK W2 p 304 #[.slice U z c',.int .i64 d]:=(am.block p Y.lt (λe=>by have:=(HH.out.own.gJ p e.symm).1;have:=HH.out.pB;omega)).trans Y;have a7:=an.cell;have a8:=an.frozen);go_roundw;(case rel=>obtain⟨T2,e1,f1,b1,o1,Q⟩:=HH.out.grown am aD (aw.imp (λh=>h) λe=>⟨_,e,by simp⟩);rw[<-V.out]at e1 b1 o1 Q;have bh:WrX p B (b++ [0]) d A2 c2 T2 (W2.setCell ⟨p,0,none⟩ (.slice A2 (z+1) c2)):=⟨f1,b1,o1,HH.out.pB,Q⟩;obtain⟨k1,e2⟩:=bh.counted (by rw[bC,<-V.out,a1.out];have:=K.out;have:=Z.out;simp;omega);(have e:arB (b,d) false=(b++ [0],d+1):=by have g1:=K.out;have g2:=Z.out;unfold arB;simp only[bU,if_false];rw[if_pos (by omega)]);exact⟨k,_,d+1,_,_,_,rfl,by omega,k1,hE.trans (e1.trans e2),ah ⟨by rw[au.out,e],by omega⟩⟩);case measure=>simp[intOf]
    |true=>
     have ai:m % 2=1:=aa.out;(have M:(m:Int) % 2=1:=by omega);rw[M]at ax;clear aa ai M h hz;go_wp2_with(at_builtin;refine wO rfl _ _ rfl B U c' b z rfl V.out.symm (aE.alloc _) wr 1 [0] 1 rfl rfl (Kv (fK.new _ _ _)) (by omega) (by simp;omega) ?_;intro A2 c2 W2 aD az aw;have am:=lN (arj ((aH wr wr).alloc ig (.cells #[.int .u8 0] 5)) (arI U)) az;have an:fK W2 p 304 #[.slice U z c',.int .i64 d]:=(am.block p Y.lt (λe=>by have:=(HH.out.own.gJ p e.symm).1;have:=HH.out.pB;omega)).trans Y;have a7:=an.cell;have a8:=an.frozen);obtain⟨T2,e0,f1,b1,o1,Q⟩:=HH.out.grown am aD (aw.imp (λh=>h) λe=>⟨_,e,by simp⟩);rw[<-V.out]at e0 b1 o1 Q;obtain⟨W5,Xg⟩:=fD (W2.setCell ⟨p,0,none⟩ (.slice A2 (z+1) c2));rw[<-Xg]at e0 b1 o1 Q ⊢;have J:WrX p B (b++ [0]) d A2 c2 T2 W5:=⟨f1,b1,o1,HH.out.pB,Q⟩;(have bc:(b++ [0]).length=z+1:=by rw[bC,<-V.out];rfl);have aR:=ah bc;have ba:=hE.trans e0;clear hE e0 b1 o1 Q f1 Xg a7 a8 an am aD az aw Y ak bq aE bc;replace hE:=ba;clear ba;obtain⟨q,av⟩:=fD (d / 8);(have hq:(d:Int) / 8=(q:Int):=by omega);(have bw:q<(z+1):=by have:=Z.out;have:=K.out;have:=a1.out;omega);obtain⟨g,cur,a6,O,bn⟩:=J.own.cells (by simp);subst a6;(have ZW:g≠p:=by have:=J.pB;omega);obtain⟨x0,al⟩:=fD (nth ((b++ [0])) q);(have aq:(W5).cell? ⟨g,q,none⟩=some (q8 x0):=by obtain⟨b',bB,e',_,a5⟩:=J.own.bytes.at_ (k:=q) (by have:=aR.out;omega);injection e' with e';injection e' with e1 e2;subst e1;subst e2;rw[al];simpa using a5);have bx:=ada r Gv;have ad:=J.blk;rw[show((b++ [0]):List UInt8).length=(z+1) by(first |exact aR.out)]at ad;have aL:=ah av;have aM:=ah al;clear av al;apply gu (Below W5) (λW=>aq3 gY 1) (λ_ _ _ h1 h2=>h1.trans h2) (vN W5 999) (λ_ _ _ h=>h.1) (λ_ _=>iR _ _ _ _) (λ_ _=>True) (λ_=>trivial) (λ_ _ _ _ _ _ _=>trivial);(case lX=>intro u;simp only[bV,aq9,aP,ay,aA,aB,aT,aJ];with_reducible rfl);(case hm=>kernel_rfl);(case hB=>kernel_rfl);(case hA=>kernel_rfl);case hap=>kernel_rfl
     repeat(first
        |(apply fM.is
          ·
            (intro u w' hk bu j
             simp[fO,aC,gI,Is]at j
             refine fC ?_ ?_
             ·
               first
               |rfl
             intro a4 hK
             have bj:=(ad.below hk ad.lt).cell;have bk:=(hk.cell (p:=⟨g,q,none⟩) O.lt).trans aq
             go_wp2_with (fail)
             try simp only[j]at hK
             refine hK _ _ ?_ rfl
             first |exact iR _ _ _ _)))
     refine fM.last (qh ?_) ?_;(·simp only[gQ];(repeat(refine⟨?_,?_⟩;·first|exact mM _));exact trivial);intro u w2 ac _ j;simp only[gQ]at j;refine⟨rfl,?_⟩;intro a4 hK;have af:=j 18 _ rfl;have ae:=j 17 _ rfl;simp only[gI,Is]at af ae;clear j;simp only[af,ae];clear af ae;have ag:=J.below ac;have Tc:=(ac.cell (p:=⟨g,q,none⟩) O.lt).trans aq;have bd:=(O.below ac O.lt).frozen q;have bi:=ag.blk.cell;have bf:=ag.blk.frozen 1;clear ad J O;go_wp2_with fail;go_roundw;(case rel=>obtain⟨Q,e1⟩:=ag.stored q (x0 ||| Iz 128 r);obtain⟨k1,e2⟩:=Q.counted (by rw[List.length_set];have:=aR.out;have:=a1.out;have:=K.out;have:=Z.out;omega);(have e:arB (b,d) true=(((b++ [0])).set q (x0 ||| Iz 128 r),d+1):=by have g1:=K.out;have g2:=Z.out;unfold arB;simp only[if_true];rw[if_pos (by omega),aM.out,aL.out,<-g2]);exact⟨k,_,d+1,_,_,_,rfl,by omega,k1,hE.trans ((Ext.of_below ac).trans (e1.trans e2)),ah ⟨by rw[au.out,e],by omega⟩⟩);case measure=>simp[intOf]
   ·(have f8:((r:Int)==0)=false:=by rw[beq_eq_false_iff_ne];omega);cases a9 with
    |false=>have ai:m % 2=0:=aa.out;(have M:(m:Int) % 2=0:=by omega);rw[M]at ax;have K:=ah h8;clear aa h8 ai M P9;go_wp2_with fail;go_roundw;(case rel=>have bo:=h.len;have bL:=K.out;obtain⟨h1,h2⟩:=h.x.counted (by simp only at bo;omega);(have e:arB (b,d) false=(b,d+1):=by unfold arB;simp only[bU,if_false];rw[if_neg (by omega)]);exact⟨k,b,d+1,U,c',T',rfl,by omega,h1,hE.trans h2,ah ⟨by rw[au.out,e],by omega⟩⟩);case measure=>simp[intOf]
    |true=>
     have ai:m % 2=1:=aa.out;(have M:(m:Int) % 2=1:=by omega);rw[M]at ax;have K:=ah h8;(have Gv:r<=7:=by omega);have J:=h.x;have ar:=h.len;simp only at ar;obtain⟨z,hz⟩:=fD b.length;have V:=ah hz;(have cc:z=(d+7) / 8:=by omega);simp only at ak;rw[<-hz]at ak;clear aa h8 ai M P9 ar Y;go_wp2_with fail;obtain⟨q,av⟩:=fD (d / 8);(have hq:(d:Int) / 8=(q:Int):=by omega);(have bw:q<z:=by have:=Z.out;have:=K.out;omega);obtain⟨g,cur,a6,O,bn⟩:=J.own.cells (by have:=K.out;have:=Z.out;omega);subst a6;(have ZW:g≠p:=by have:=J.pB;omega);obtain⟨x0,al⟩:=fD (nth (b) q);(have aq:(wr).cell? ⟨g,q,none⟩=some (q8 x0):=by obtain⟨b',bB,e',_,a5⟩:=J.own.bytes.at_ (k:=q) (by have:=V.out;omega);injection e' with e';injection e' with e1 e2;subst e1;subst e2;rw[al];simpa using a5);have bx:=ada r Gv;have ad:=J.blk;rw[show(b:List UInt8).length=z by(first |exact V.out.symm)]at ad;have aL:=ah av;have aM:=ah al;clear av al;(try simp only[hr]);apply gu (Below wr) (λW=>aq3 gY 1) (λ_ _ _ h1 h2=>h1.trans h2) (vN wr 999) (λ_ _ _ h=>h.1) (λ_ _=>iR _ _ _ _) (λ_ _=>True) (λ_=>trivial) (λ_ _ _ _ _ _ _=>trivial);(case lX=>intro u;simp only[bV,aq9,aP,ay,aA,aB,aT,aJ];with_reducible rfl);(case hm=>kernel_rfl);(case hB=>kernel_rfl);(case hA=>kernel_rfl);case hap=>kernel_rfl
     repeat(first
        |(apply fM.is
          ·
            (intro u w' hk bu j
             simp[fO,aC,gI,Is]at j
             refine fC ?_ ?_
             ·
               first
               |rfl
             intro a4 hK
             have bj:=(ad.below hk ad.lt).cell;have bk:=(hk.cell (p:=⟨g,q,none⟩) O.lt).trans aq
             go_wp2_with (fail)
             try simp only[j]at hK
             refine hK _ _ ?_ rfl
             first |exact iR _ _ _ _)))
     refine fM.last (qh ?_) ?_;(·simp only[gQ];(repeat(refine⟨?_,?_⟩;·first|exact mM _));exact trivial);intro u w2 ac _ j;simp only[gQ]at j;refine⟨rfl,?_⟩;intro a4 hK;have af:=j 18 _ rfl;have ae:=j 17 _ rfl;simp only[gI,Is]at af ae;clear j;simp only[af,ae];clear af ae;have ag:=J.below ac;have Tc:=(ac.cell (p:=⟨g,q,none⟩) O.lt).trans aq;have bd:=(O.below ac O.lt).frozen q;have bi:=ag.blk.cell;have bf:=ag.blk.frozen 1;clear ad J O;go_wp2_with fail;go_roundw;(case rel=>obtain⟨Q,e1⟩:=ag.stored q (x0 ||| Iz 128 r);obtain⟨k1,e2⟩:=Q.counted (by rw[List.length_set];have:=V.out;have:=K.out;have:=Z.out;omega);(have e:arB (b,d) true=((b).set q (x0 ||| Iz 128 r),d+1):=by have g1:=K.out;have g2:=Z.out;unfold arB;simp only[if_true];rw[if_neg (by omega),aM.out,aL.out,<-g2]);exact⟨k,_,d+1,_,_,_,rfl,by omega,k1,hE.trans ((Ext.of_below ac).trans (e1.trans e2)),ah ⟨by rw[au.out,e],by omega⟩⟩);case measure=>simp[intOf]
def fV (base:Nat) (bs:List UInt8):Value->World->Prop:=fun v w=> ∃A c,v=.slice A bs.length c/\aq2 w A c bs/\(0<bs.length-> ∃g,A=some ⟨g,0,none⟩/\base<=g/\g<w.heap.size/\ ∀i,i<bs.length->w.frozen? ⟨g,i,none⟩=false)
theorem fV.is(h:fV base bs v w):jG bs v w:=by obtain⟨A,c,e,hB,_⟩:=h;exact⟨A,c,e,hB⟩
theorem fV.grow(h:fV base bs v w)(d:w w'):fV base bs v w':=by obtain⟨A,c,e,hB,O⟩:=h;refine⟨A,c,e,hB.below d,λH=>?_⟩;obtain⟨g,J,K,j,M⟩:=O H;exact⟨g,J,K,aU j d.size,λi hi=>(d.frozen (p:=⟨g,i,none⟩) j).trans (M i hi)⟩
theorem fV.mono{base':Nat}(h:fV base bs v w)(j:base'<=base):fV base' bs v w:=by obtain⟨A,c,e,hB,H⟩:=h;refine⟨A,c,e,hB,λd=>?_⟩;grind
theorem fV.own(h:arn w base A c bs):fV base bs (.slice A bs.length c) w:=by refine⟨A,c,rfl,h.bytes,λd=>?_⟩;obtain⟨g,rfl,j,H⟩:=h.addr d;exact⟨g,rfl,j,H,λi _=>World.ownsRow.frozenAt h i⟩
theorem adb(A:Option Addr)(n c:Nat)(bs:List UInt8)(w:World)(hn:bs.length=n)(hB:aq2 w A c bs)(V:bs.length<=65536):Calls aj 164 #[.slice A n c] w λe w'=> ∃H d,e=.returned (.slice H n d)/\arn w' w H d bs/\w w':=by
 have aa: ∀(W:World) (a:Option Addr) (n c j d:Nat),(binOp .eql 45 (.slice a n c) (.slice none j d)).run aj W=.ok a.isNone W:=λW a n c j d=>Lib.run_eql_slice_nil W _ _ a n c j d dW;cases A with
 |none=>
  have M:bs= []:=by cases bs with|nil=>rfl|cons x xs=>obtain⟨b,off,e,_⟩:=hB.at_ (k:=0) (by simp);cases e
  subst M;go_enter func164,ntmps164;go_wp2;go_ret;exact⟨none,0,by simp;omega,arn.nil _ _,aH _ _⟩
 |some K=>have O:arn (w.alloc (.cells #[] 5)) w w 0 []:=⟨by rfl,.inr ⟨w,0,#[],rfl,aW _,fK.new _ _ _,aW _,aV _,rfl,rfl⟩⟩;have Q:w (w.alloc (.cells #[] 5)):=gY.alloc ig _;have Y:=ah V;have Z:=ah hn;go_enter func164,ntmps164;go_wp2_with(at_builtin;refine xJ rfl _ _ rfl w w 0 [] 0 rfl rfl O (some K) c bs n rfl Z.out.symm (hB.alloc _) (by have:=Y.out;grind) (by simp) ?_;intro A2 c2 W2 J L6 U);go_ret;simp only[aZ]at J;exact⟨A2,c2,by simp,J,Q.trans U⟩
theorem TR(A:Option Addr)(n c:Nat)(bs:List UInt8)(w:World)(hn:bs.length=n)(hB:aq2 w A c bs)(j:bs.length<=65536):Calls aj 164 #[.slice A n c] w λe w'=> ∃v,e=.returned v/\fV w bs v w'/\w w':=by refine(adb A n c bs w hn hB j).mono ?_;rintro e w'⟨J,K,rfl,H,d⟩;refine⟨_,rfl,?_,d⟩;have:=fV.own H;grind
theorem agi(h:Ku p B (b,u) A c T w)(Z:0<b.length)(hl:b.length<=65536):Calls aj 211 #[.pointer p] w λe w'=> ∃v,e=.returned v/\fV w b v w'/\w w':=by
 have am:=Gg b.length hl;have j:Own w _ [_]:=Own.jD w 5 (xK b.length);have M:=h.blk.below j.below h.blk.lt;simp only at M;have ac:=h.blk.cell;have al:=M.cell;have d:=h.own.bytes;have hA:=d.below j.below;simp only at ac d hA;obtain⟨g,off,rfl,hg,_⟩:=d.at_ (k:=0) Z;have V:=j.b0;have Q:=ah (aq8 b);have ak: ∀H v,(aq6 b)[H]? =some v->(w.alloc (.cells (xK b.length) 5)).cell? ((⟨g,off,none⟩:Addr).add H)=some v:=by
  intro H v hj;have ai:0<(aq6 b).length:=by grind
  obtain⟨b',an,e,_,hc⟩:=hA.row ai;cases e;rw[Addr.add_lit];exact hc H v hj
 have ag: ∀v∈aq6 b,v.oneCell'=true:=tY b;have ad:(aq6 b).length=Nat.min b.length b.length:=by rw[Q.out];exact(Nat.min_self _).symm
 have ae:0+(aq6 b).length<=(xK b.length).size:=by rw[Q.out,vC];omega
 have U:(aq6 b++(xK b.length).toList.drop b.length).toArray=(aq6 b).toArray:=by rw[List.drop_eq_nil_of_le (by simp[vC]),List.append_nil]
 have aa:=d.cap;have af:=d.max;generalize O:aq6 b=cl at*;have J:=ah O;have K:=ah U;clear O U h d hA;go_enter func211,ntmps211;go_wp2_with(first|(refine wpList_copy_own rfl _ _ _ _ rfl 5 dW (by kernel_rfl) _ _ _ _ _ _ _ rfl rfl (xK b.length) 5 V cl ad ak ae ag ?_));go_ret;have Y:=V.row (aq6 b).toArray;rw[<-J.out]at K;refine⟨_,rfl,⟨w,b.length,rfl,?_,λ_=>⟨w,rfl,aW _,?_,λi _=>?_⟩⟩,?_⟩;·rw[<-J.out,K.out];refine⟨?_,aW _,aG aa af⟩;have:=Row.block Y;omega
 ·simp
 ·rw[<-J.out,K.out];exact Y.frozen i
 ·exact jk j.below ig _
def zM (s:List UInt8 × Nat) (l:List (Int × Int)):List UInt8 × Nat:=l.foldl (fun s x=>DX s x.1.toNat x.2.toNat) s
def C9 (l:List (Int × Int)):Except Int (List UInt8):=if 1023<(arf l+7) / 8 then .error 2 else .ok (zM ([],0) (vS l 1 ((arf l+7) / 8))).1
def sV (l:List (Int × Int)):Prop:= ∀x∈l,1<=x.2/\x.2<=32/\0<=x.1/\x.1<2 ^ x.2.toNat
theorem Xh(d:sV l): ∀s:List UInt8 × Nat,((zM s l).2:Int)=s.2+arf l:=by
 induction l with
 |nil=>intros;rfl
 |cons x l J=>
  intro s;have K:=d x (by simp);have j:=J (λy H=>d y (by simp[H])) (DX s x.1.toNat x.2.toNat);have e:zM s (x::l)=zM (DX s x.1.toNat x.2.toNat) l:=rfl;rw[e,j,Xf];have e2:arf (x::l)=x.2+arf l:=by rfl
  rw[e2];omega
theorem ade(l:List (Int × Int)): ∀s:List UInt8 × Nat,s.1.length=(s.2+7) / 8->(zM s l).1.length=((zM s l).2+7) / 8:=by induction l with|nil=>intro s h;exact h|cons x l d=>intro s h;exact d _ (TQ _ _ _ h)
theorem Oc{k:Nat}{x:Int × Int}(h:l[k]? =some x)(s:List UInt8 × Nat):zM s (l.take (k+1))=DX (zM s (l.take k)) x.1.toNat x.2.toNat:=by rw[take_snoc' h];simp[zM]
def TT (w:World) (R:Option Nat) (q:Except Int (List UInt8)) (e:Ending) (w':World):Prop:=w.grownBy w' R/\match q with
 | .ok bs=> ∃v,e=.returned (.tuple #[v,.int .i64 0])/\fV w bs v w'
 | .error er=>e=.returned (.tuple #[.slice none 0 0,.int .i64 er])
theorem sV.set(d:sV l){x:Int × Int}(j:l[1]? =some x)(J:x.2=10){n:Nat}(hn:n<=1023):sV (vS l 1 n):=by
 rw[PY j];intro y H;rcases List.mem_or_eq_of_mem_set H with h |h;·exact d y h
 grind
theorem adf(l m:List (Int × Int)):arf (l++m)=arf l+arf m:=by simp[arf]
theorem agj(d:AO l)(k:Nat):arf (l.take k)<=arf l:=by
 have h: ∀m:List (Int × Int),AO m->0<=arf m:=by intro m hm;have:=xR hm m.length;grind
 have e:arf l=arf (l.take k)+arf (l.drop k):=by rw[<-adf,List.take_append_drop]
 have:=h (l.drop k) (λx j=>d x (List.mem_of_mem_drop j));omega
theorem Qc(d:sV l):(l.length:Int)<=arf l:=by
 induction l with
 |nil=>decide
 |cons x l H=>
  have J:=d x (by simp);have K:=H (λy j=>d y (by simp[j]));have e2:arf (x::l)=x.2+arf l:=by rfl
  grind
theorem fV.less{d:Nat}(h:fV B bs v w)(hB:d<=B):fV d bs v w:=by obtain⟨A,c,e,j,J⟩:=h;exact⟨A,c,e,j,λH=>by grind⟩
theorem ajy(l:List (Int × Int))(A:Option Addr)(c B0:Nat)(w:World)(ho:aq1 iU 245 w B0 A c l)(hl:l.length<=65536)(hv:sV l)(x1:Int × Int)(bf:l[1]? =some x1)(bn:x1.2=10):Calls aj 163 #[.slice A l.length c] w (TT w (A.map (·.block)) (C9 l)):=by
 obtain⟨R,hR⟩:=fD (C9 l);rw[<-hR];unfold C9 at hR;have bd:AO l:=λx H=>by have:=hv x H;omega
 obtain⟨m,hm⟩:=fD l.length;rw[<-hm];have cd:m<=65536:=by omega
 have h2:1<m:=by grind
 have HM:=ah hm;have HW:Hid (∀k,0<=arf (l.take k)/\arf (l.take k)<=32*(m:Int)):=ah (by rw[hm];exact xR bd);have HV:=ah hv;have HX:=ah bf;have HR:=ah hR;clear hm hv bf hR hl bd;go_enter func163,ntmps163;go_wp2_with fail;go_loopw [4,13] (λs i wr=> ∃k:Nat,i=.int .i64 k/\k<=m/\s=.int .i64 (arf (l.take k))/\w wr) (λ_ i _=>m-(intOf i).toNat);case atStart=>exact⟨0,rfl,aV _,rfl,aH _ _⟩
 case round=>
  obtain⟨k,rfl,O,rfl,K⟩:=hrel;have ad:=HW.out k;by_cases Q:k<m;·(have bB:decide ((k:Int)<(m:Int))=true:=by simpa using Q);obtain⟨x,H⟩:=aq5 HM.out.symm Q;have U:=ho.below K;obtain⟨g,off,M,hg,hc⟩:=U.rows.get H;have a0:=hc 0 _ rfl;have a1:=hc 1 _ rfl;simp only[iU,bI]at a0 a1;subst M;have aD:=arO H;have ae:=HW.out (k+1);rw[aD]at ae;have bm:=ah aD;have bA:=(fK.new wr 245 #[x.1,x.2]).cell;obtain⟨sk,az⟩:=fD (arf (l.take k));rw[<-az]at ad ae ⊢;have bk:=ah az;clear aD az hc H U ho;go_wp2_with fail;go_roundw;(case rel=>exact⟨k+1,by go_num,by omega,by rw[bm.out,<-bk.out],K.trans (gY.alloc K.size _)⟩);case measure=>simp[intOf];omega
  ·(obtain rfl:k=m:=by omega);(have bB:decide ((k:Int)<(k:Int))=false:=by simp);have ac:l.take k=l:=aY (by rw[HM.out];simp);rw[ac]at ad ⊢;obtain⟨S,hS⟩:=Int.eq_ofNat_of_zero_le ad.1;rw[hS]at ad ⊢;have HS:=ah hS;obtain⟨j,bb⟩:=fD ((S+7) / 8);(have hq:((S:Int)+7) / 8=(j:Int):=by omega);have aL:=ah bb;have U:=ho.below K;obtain⟨g,cur,rfl,a8,M,ba⟩:=U.acW HX.out;have bS:=U.rows.get HX.out;obtain⟨g',ch,e',bL,a6⟩:=bS;injection e' with e';injection e' with e1 e2;subst e1;subst e2;have a0:=a6 0 _ rfl;simp only[iU,bI,aJ,Nat.one_mul]at a0;have bE:=a8.frozen 2;have ar:=ba j;have ak:Hid (R=if 1023<(j:Int) then .error 2 else .ok (zM ([],0) (vS l 1 j)).1):=ah (by rw[HR.out,HS.out,hq]);clear bb hS ac Q a6 U ba ho M;by_cases h8:1023<j;(·(have d8:decide ((1023:Int)<(j:Int))=true:=by simp;omega);have Y:Hid (R=.error 2):=ah (by rw[ak.out,if_pos (by omega)]);clear h8 ak;go_wp2_with fail;go_ret2;rw[Y.out];refine⟨?_,rfl⟩;exact lN (arj K _) ⟨rfl,rfl,rfl,by simp,λk _ O=>aN wr ⟨g,2,none⟩ _ k (λe=>O (by rw[e]))⟩);·(have d8:decide ((1023:Int)<(j:Int))=false:=by simp;omega);have Y:Hid (R=.ok (zM ([],0) (vS l 1 j)).1):=ah (by rw[ak.out,if_neg (by omega)]);have P6:Hid (j<=1023):=ah (by omega);clear h8 ak;go_wp2_with fail;obtain⟨p,hp⟩:=fD wr.heap.size;obtain⟨W2,aa⟩:=fD ((wr.setCell ⟨g,2,none⟩ j).alloc (.cells #[nS,zI] 304));(have ag:(wr.setCell ⟨g,2,none⟩ j).heap.size=p:=by rw[hp];simp);(have au:Below p (wr.setCell ⟨g,2,none⟩ j) W2:=by rw[aa];exact gY.alloc (bZ ag.symm) _);(have cc:W2.heap.size=p+1:=by rw[aa];simp[dD,hp]);(have cg:w.heap.size<=p:=by rw[hp];exact K.size);have aR:wr.grownBy (wr.setCell ⟨g,2,none⟩ j) (some g):=⟨rfl,rfl,rfl,by omega,λk _ O=>aN wr ⟨g,2,none⟩ _ k (λe=>O (by rw[e]))⟩;have a9:w.grownBy W2 (some g):=lN (arj K _) (lN aR (arj (by rw[ag];exact au) _));(have bc:fK W2 p 304 #[nS,zI]:=by have:=fK.new (wr.setCell ⟨g,2,none⟩ j) 304 #[nS,zI];rw[ag]at this;rw[aa];omega);have a4:ZV p (p+1) ([],0) (λk=>k=p\/(none:Option Nat)=some k) W2:=⟨none,0,{foot:=λk=>Iff.rfl,blk:=bc,own:=arn.nil _ _,pB:=by omega,size:=by omega,len:=rfl}⟩;obtain⟨L,hL⟩:=fD (vS l 1 j);rw[<-hL]at ar Y;have Z:Hid (sV L):=ah (by rw[hL];exact HV.out.set HX.out bn P6.out);have ap:Hid (L.length=k):=ah (by rw[hL,HM.out];simp[vS]);have aM:Hid (arf L=(S:Int)):=ah (by rw[hL,JW,HS.out]);have a5:fE iU W2 g L:=ar.rows.below (by rw[ag];exact au);have bi:=ah a5;have bh:Hid (g<p):=ah (by omega);have ai:=ah a9;rw[<-aa];simp only[<-hp];(have cf:0<k:=by omega);clear ar a8 bE a0 hq au ag aR bc aa hL a5 bL a9 hp K ad d8 h2;go_loopw [37] (λi wr=> ∃(d:Nat) (T:Nat->Prop),i=.int .i64 d/\d<=k/\ZV p (p+1) (zM ([],0) (L.take d)) T wr/\Ext (λk=>k=p\/(none:Option Nat)=some k) W2 T wr) (λi _=>k-(intOf i).toNat);(case atStart=>exact⟨0,_,rfl,aV _,a4,Ext.refl _ _⟩);case round=>clear a4;obtain⟨d,T,rfl,hj,am,J⟩:=hrel;by_cases Q:d<k;(·obtain⟨x,H⟩:=aq5 ap.out Q;obtain⟨g2,ci,M,bN,aw⟩:=bi.out.get H;injection M with M;injection M with e1 e2;subst e1;subst e2;have ax:=J.same g bN (λc=>by have:=bh.out;rcases c with e |e;omega;cases e);have a0:=(World.cell?_of_block (w:=W2) ax).trans (aw 0 _ rfl);have a1:=(World.cell?_of_block (w:=W2) ax).trans (aw 1 _ rfl);simp only[iU,bI,aJ]at a0 a1;have aE:=Z.out x (bP H);obtain⟨n1,al⟩:=Int.eq_ofNat_of_zero_le aE.2.2.1;obtain⟨ww,an⟩:=Int.eq_ofNat_of_zero_le (show 0<=x.2 by omega);(have a7:(zM ([],0) (L.take d)).2+ww<=8184:=by have ca:sV (L.take (d+1)):=λy hy=>Z.out y (List.mem_of_mem_take hy);have h1:=Xh ca ([],0);rw[Oc H,Xf]at h1;have h3:=agj (λy hy=>by have:=Z.out y hy;omega:AO L) (d+1);have h4:=aM.out;have h5:=P6.out;have h6:=aL.out;omega);have bR:=λW (h:ZV p (p+1) (zM ([],0) (L.take d)) T W)=>amc h n1 ww (by omega) (by omega) (by have:=aE.2.2.2;rw[al,an,Int.toNat_natCast]at this;exact_mod_cast this) a7;have bj:Hid (zM ([],0) (L.take (d+1))=DX (zM ([],0) (L.take d)) n1 ww):=ah (by rw[Oc H,al,an,Int.toNat_natCast,Int.toNat_natCast]);rw[al]at a0;rw[an]at a1;have bA:=(fK.new wr 245 #[(n1:Int),(ww:Int)]).cell;(have bX:ZV p (p+1) (zM ([],0) (L.take d)) T (wr.alloc (.cells #[(n1:Int),(ww:Int)] 245)):=by obtain⟨Aw,cw,V⟩:=am;exact⟨Aw,cw,V.below jm⟩);clear aE al an a7 H aw ax am;go_wp2_with((with_reducible refine(bR _ bX).mono ?_);rintro e w5⟨rfl,T5,bo,bw⟩);go_roundw;(case rel=>exact⟨d+1,T5,by go_num,by omega,by rw[bj.out];exact bw,J.trans ((Ext.of_below jm).trans bo)⟩);case measure=>simp[intOf];omega);·(obtain rfl:d=k:=by omega);have ac:L.take d=L:=aY (by rw[ap.out];omega);rw[ac]at am;obtain⟨Aw,cw,V⟩:=am;obtain⟨bu,av⟩:=fD (zM ([],0) L);rw[<-av]at V Y;have hn:=Xh Z.out ([],0);rw[<-av]at hn;obtain⟨b,cu⟩:=bu;have aq:=V.len;(have h0:0<b.length:=by have:=Qc Z.out;have h2:=ap.out;simp only at aq hn;omega);(have ae:b.length<=65536:=by have h2:=aM.out;have h5:=P6.out;have h6:=aL.out;simp only at aq hn;omega);have bx:=agi V h0 ae;clear ac av hn aq V h0 ae Q;go_wp2_with((with_reducible refine bx.mono ?_);rintro e w5⟨v5,rfl,bq,af⟩);go_ret2;rw[Y.out];refine⟨?_,v5,rfl,bq.less (by have:=J.size;omega)⟩;exact⟨af.os.trans (J.os.trans ai.out.os),af.tape.trans (J.tape.trans ai.out.tape),af.output.trans (J.output.trans ai.out.output),aG (by have:=J.size;omega) af.size,λk O bO=>(af.block k (by have:=J.size;omega)).trans ((J.same k (by omega) (λc=>by rcases c with e |e;omega;cases e)).trans (ai.out.block k O bO))⟩
def rJ (m:Ms):List Int:=Fa m.id m.t m.ack m.sS
theorem TU{v:Int}(h:uX v n=true):1<=fQ v/\fQ v<=32/\0<=n/\n<2 ^ (fQ v).toNat:=by have d:=lq v;unfold uX at h;grind
theorem BR(v:Int)(s:List Int × List (Int × Int))(n:Int)(s':List Int × List (Int × Int))(h:lC v s=.ok (n,s')): ∃y:Int × Int,s'.2=s.2++ [y]/\y.2=fQ v/\1<=y.2/\y.2<=32/\0<=y.1/\y.1<2 ^ y.2.toNat:=by
 unfold lC at h;by_cases d:v=7;·rw[if_pos d]at h;injection h with h;injection h with _ h;subst h;subst d;repeat' constructor
 ·rw[if_neg d]at h;obtain⟨l,m⟩:=s;cases l with
  |nil=>cases h
  |cons y r=>simp only at h;by_cases hm:uX v y=true;(·rw[if_pos hm]at h;injection h with h;injection h with _ h;subst h;exact⟨_,rfl,rfl,TU hm⟩);grind
theorem sV.app(h:sV l){y:Int × Int}(j:1<=y.2/\y.2<=32/\0<=y.1/\y.1<2 ^ y.2.toNat):sV (l++ [y]):=λx d=>by
 rcases dK.1 d with d |d;·exact h x d
 grind
theorem sV.cat{m:List (Int × Int)}(h:sV l)(k:sV m):sV (l++m):=λx d=>(dK.1 d).elim (h x) (k x)
def Pt.Qd (up:Bool):Pt->Bool
 | .pl v r=>if up then v==7 else(v==6&&match r with | .pl v2 _=>v2==7 |_=>false)
 |_=>false
theorem TV: ∀id:Fin 81,(match lu (id.val:Int) with |none=>true |some q=>q.Qd (Yv (id.val:Int)))=true:=by decide
theorem Xi{id:Int}{q:Pt}(h:lu id=some q):q.Qd (Yv id)=true:=by obtain⟨d,j⟩:=yV h;have:=TV ⟨id.toNat,by omega⟩;simpa only[show((id.toNat:Nat):Int)=id by omega,h] using this
theorem YK{base:List (Int × Int)}{q:Pt}{last:Int}{s s':List Int × List (Int × Int)}(h:mV lC q last s=.ok s')(d: ∃t,s.2=base++t): ∃t,s'.2=base++t:=BQ (I:=λs=> ∃t,s.2=base++t) (λv s n s' h hi=>by obtain⟨y,e,_⟩:=BR v s n s' h;grind) q last s s' h d
theorem TY{p:Pk}(h:kG p=.ok l):sV l/\ ∃x,l[if Yv p.id=true then 1 else 2]? =some x/\x.2=13:=by
 unfold kG at h;cases J:lu p.id with
 |none=>grind
 |some q=>
  rw[J]at h;simp only at h;cases j:mV lC q 0 (p.v,[(p.id,fQ 5)]) with
  |error x=>grind
  |ok r=>
   rw[j]at h;obtain⟨rest,l'⟩:=r;simp only at h;split at h
   ·injection h with h;subst h;obtain⟨i0,i1⟩:=yV J;have ac:fQ 5=8:=by decide
    refine ⟨BQ (I := λs=> sV s.2) (λv s n s' h hi=> by
      obtain⟨y,e,_,U⟩:=BR v s n s' h
      rw[e]
      exact hi.app U) q 0 _ _ j (λx hx=>by
        grind),?_⟩
    have d:=Xi J;cases q with
    |nil=>cases d
    |grp k a b=>cases d
    |pl v r=>
     rw[mV]at j;cases M:lC v (p.v,[(p.id,fQ 5)]) with
     |error x=>grind
     |ok V=>
      obtain⟨n,Z⟩:=V;rw[M]at j;simp only at j;obtain⟨y,e,ey,_⟩:=BR _ _ _ _ M;cases K:Yv p.id with
      |false=>
       rw[K]at d;simp only[Pt.Qd,bU,if_false,bM,beq_iff_eq]at d;obtain⟨_,d⟩:=d;cases r with
       |nil=>cases d
       |grp k a b=>cases d
       |pl v2 r2=>simp only[beq_iff_eq]at d;subst d;rw[mV]at j;cases O:lC 7 Z with|error x=>grind|ok Y=>obtain⟨n2,s2⟩:=Y;rw[O]at j;simp only at j;obtain⟨Q,e2,aa,_⟩:=BR _ _ _ _ O;obtain⟨t,H⟩:=YK (base:= [(p.id,fQ 5),y,Q]) j ⟨[],by grind⟩;simp only at H;rw[H];exact⟨Q,rfl,by assumption⟩
      |true=>rw[K]at d;simp only[Pt.Qd,if_true,beq_iff_eq]at d;subst d;obtain⟨t,H⟩:=YK (base:= [(p.id,fQ 5),y]) j ⟨[],by grind⟩;simp only at H;rw[H];exact⟨y,rfl,by assumption⟩
   grind
theorem sV.setAt(H:sV l){i:Nat}{x:Int × Int}(O:l[i]? =some x)(M:x.2=13)(K:0<=n)(hn:n<=8184):sV (vS l i n):=by
 intro y j;unfold vS at j;obtain⟨J,d⟩:=List.mem_iff_getElem?.1 j;rw[List.getElem?_modify]at d;by_cases e:i=J;·grind
 ·simp[e]at d;exact H y (bP d)
theorem Kw{p:Pk}(h:mO p=.ok l):sV l/\l.length<=8184:=by
 unfold mO at h;cases hi:kG p with
 |error x=>grind
 |ok K=>
  rw[hi]at h;simp only at h;split at h;·cases h
  ·injection h with h;obtain⟨d,x,H,j⟩:=TY hi;have J:=Qc d;subst h;exact⟨d.setAt H j (by omega) (by omega),by simp[vS];omega⟩
theorem Gw{p:Pk}{er:Int}(h:mO p=.error er):er≠0:=by
 unfold mO at h;cases hi:kG p with
 |error x=>rw[hi]at h;cases h;have:=NZ hi;omega
 |ok d=>grind
def jd:List Pk->Except Int (List (Int × Int))
 | []=> .ok []
 |p::ps=>match mO p with
   | .error e=> .error e
   | .ok l=>match jd ps with
     | .error e=> .error e
     | .ok r=> .ok (l++r)
def Gx (ns:List Int) (vs:List Int):Bool:=(ns.zip vs).all fun p=>uX p.1 p.2
def AU (m:Ms):List (Int × Int):= [(m.id,fQ 0),(0,fQ 1)]
def Fg (m:Ms):List (Int × Int):=((rG m.id).zip (rJ m++m.v)).map fun p=>(p.2,fQ p.1)
def DY (m:Ms):Except Int (List UInt8):=if PE m.id=none then .error 4 else if(rJ m++m.v).length≠(rG m.id).length\/(PW m.id=true/\m.ack≠0) then .error 20 else if Gx (rG m.id) (rJ m++m.v)=false then .error 20 else match jd m.p with
 | .error e=> .error e
 | .ok its=>if Ia (nG m.id) (m.p.map (·.id))=false then .error 50 else C9 (AU m++Fg m++its)
theorem Fh(l r:List Pk):jd (l++r)=match jd l with
    | .error e=> .error e
    | .ok a=>match jd r with
      | .error e=> .error e
      | .ok b=> .ok (a++b):=by
  induction l with
  |nil=>
    rw[aZ,jd]
    cases jd r <;> rfl
  |cons p l d=>
    rw[bQ,jd,jd,d]
    cases mO p with
    |error e=>rfl
    |ok x=>
      grind
theorem Qe(p:Pk):jd [p]=mO p:=by rw[jd,jd];cases mO p with|error e=>rfl|ok x=>simp
theorem xk: ∀ {l:List Pk} {d:List (Int × Int)},jd l=.ok d->sV d/\d.length<=8184*l.length
 | [],d,h=>by rw[jd]at h;cases h;exact⟨(λx M=>by cases M),by simp⟩
 |p::l,d,h=>by rw[jd]at h;cases H:mO p with|error e=>grind|ok x=>rw[H]at h;simp only at h;cases j:jd l with|error e=>grind|ok a=>rw[j]at h;injection h with h;subst h;obtain⟨J,O⟩:=Kw H;obtain⟨K,Q⟩:=xk j;exact⟨J.cat K,by grind⟩
theorem Fj(m:Ms)(h:Gx (rG m.id) (rJ m++m.v)=true):sV (Fg m):=by intro x d;unfold Fg at d;obtain⟨p,j,rfl⟩:=List.mem_map.1 d;unfold Gx at h;exact TU (List.all_eq_true.1 h p j)
theorem Dc(m:Ms)(h:PE m.id≠none):sV (AU m):=by
 obtain⟨f,j⟩:=Option.ne_none_iff_exists'.1 h;obtain⟨H,J⟩:=TK j;intro x d;unfold AU at d;simp only[bJ,dH,or_false]at d;rcases d with rfl |rfl;·rw[show fQ 0=8 by decide];grind
 decide
def Ky (B N:Nat) (l:List Int) (v:Value) (w:World):Prop:= ∃A c,v=.slice A N c/\aq1 aq7 3 w B A c l
theorem Ky.grow{l:List Int}(h:Ky B N l v w)(d:w w'):Ky B N l v w':=by obtain⟨A,c,e,j⟩:=h;exact⟨A,c,e,j.below d⟩
def ZX (B N:Nat) (l:List (Int × Int)) (v:Value) (w:World):Prop:= ∃A c,v=.slice A N c/\aq1 iU 245 w B A c l
theorem ZX.grow(h:ZX B N l v w)(d:w w'):ZX B N l v w':=by obtain⟨A,c,e,j⟩:=h;exact⟨A,c,e,j.below d⟩
theorem aq1.adh{α:Type}{E:arb α}{t:TypeId}{xs:List α}{cur:Array Value}(j:fK w g t cur)(H:base<=g)(hm:xs.length<=maxLen)(d:cur.toList=E.flat xs):aq1 E t w base g xs.length xs:=by
 have J:cur.size=xs.length*E.k:=by rw[<-Array.length_toList,d,E.flat_length]
 exact⟨by grind,.inr ⟨g,xs.length,cur,rfl,H,j,aW _,hm,J,by rw[d,aY (by grind)]⟩⟩
theorem arJ{α H:Type}{J:arb α}{K:arb H}{d j:TypeId}{b1 b2 c1:Nat}{A1:Option Addr}{l1:List α}{l2:List H}(M:aq1 J d w b1 A1 c1 l1)(O:aq1 K j w b2 A2 c2 l2)(ht:d≠j): ∀g,A1.map (·.block)=some g->A2.map (·.block)≠some g:=by intro g e1 e2;obtain⟨g1,Z,r1,_,Q,_⟩:=M.blk (by grind);obtain⟨g2,Y,V,_,U,_⟩:=O.blk (by grind);rw[r1]at e1;rw[V]at e2;simp only[eF,aO]at e1 e2;subst e1;subst e2;unfold fK at Q U;grind
def ajA (w:World) (R:Except Int (List UInt8)) (e:Ending) (w':World):Prop:=w w'/\match R with
 | .error er=>e=.returned (.tuple #[.slice none 0 0,.int .i64 er])
 | .ok bs=> ∃v,e=.returned (.tuple #[v,.int .i64 0])/\fV w bs v w'
end Go.Proofs.YthnmgjngniciaaaGreatDoor
