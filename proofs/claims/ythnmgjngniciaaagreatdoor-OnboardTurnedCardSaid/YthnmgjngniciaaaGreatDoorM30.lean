/- Parts. -/
import Derived.Test.YthnmgjngniciaaaGreatDoorM29
import Derived.Test.YthnmgjngniciaaaGreatDoorM27
import Derived.Test.YthnmgjngniciaaaGreatDoorM28
set_option linter.all false
set_option maxHeartbeats 16000000
set_option maxRecDepth 8000
open Bool renaming and_eq_true→bM
open List renaming drop_of_length_le→dJ,getElem?_cons_zero→eP,getElem?_eq_some_iff→aX,map→bV,mem_cons→bJ,mem_singleton→dN,nil_append→aZ,setIfInBounds_toArray→ay,set_cons_succ→aB,set_cons_zero→aA
open Nat renaming le_refl→aW,le_trans→aG,lt_of_lt_of_eq→fA,lt_of_lt_of_le→aU,reduceAdd→aT,zero_add→aJ,zero_le→aV
open Option.some renaming injEq→aO
namespace Go.Proofs.YthnmgjngniciaaaGreatDoor
open Go.RowKit Go.Shelf Tryz
open Act renaming put→aP
open Below renaming heap_setCell→aN,refl→aH
open Go.Lib renaming hid→ah
open Region renaming binds→aC,wanted→aF
open Tryz renaming prog→aj,underlying34→bD,underlying44→bg
open Value renaming oneCell'→aK
open World renaming setCell→dD
variable{s:Cs}{er id now:Int}{L:List Bk}{v:List Int}{Bq c cv g:Nat}{A:Option Addr}{t:Tp}{tm:jl}{x:Tr}{W w w0:World}
theorem QH: ∀args w,(callFunc 67 args).run aj w=.ok (.enter 67 args) w:=enters_of func67 (by rfl) (by rfl)
theorem aej(x:St)(e:Int)(g:Nat)(w:World)(hA:w.cell? ⟨g,1,none⟩=some e)(H:g<w.heap.size):Calls aj 67 #[.agg (gV.enc x).toArray,.pointer g] w λr w'=>r=.returned (.bool (decide (x.edge=e)))/\w w':=by obtain⟨j,J⟩:=x;simp only[gV];have d:Own w _ [_]:=(Own.nil w).alloc 58 #[j,J] _ rfl;have M:=d.b0.cell;have K:=(d.below.cell (p:=⟨g,1,none⟩) H).trans hA;go_enter func67,ntmps67;go_wp2_with fail;go_ret;refine⟨?_,d.below⟩;by_cases h:j=e <;> simp[h]
theorem aek{S:wE}{t:TypeId}{cs:Array Value}(M:Stp S w W)(H:fK w g t cs)(i:Nat)(d:(g,none)∉S)(j:(g,some i)∉S){v:Value}(N:cs[i]? =some v):W.cell? ⟨g,i,none⟩=some v:=by obtain⟨cs',J,O,K⟩:=M.shape g t cs H;rw[J.cell i,K d i j,N]
theorem Own.apj{j:Bk}{t:TypeId}{old:Array Value}(d:Own w W (j::(g,t,old)::L))(i:Nat)(v:Value):Own w (W.setCell ⟨g,i,none⟩ v) (j::(g,t,old.setIfInBounds i v)::L):=Own.with (L1:= [j]) d (d.below.setCell (p:=⟨g,i,none⟩) (Own.lo (L1:= [j]) d) v) (d.b1.iV i v) (λk H=>aN W ⟨g,i,none⟩ v k H)
def trS (x:Tr) (p:Ps) (rf:Int) (rv:Bool) (ps:Int):Tr:={x with pos:=p,ref:=rf,rev:=rv,past:=ps}
theorem agZ(x:Tr)(m:kZ)(p:Ps):arh (jf x m) 34 [.int .i64 p.edge,.int .i64 p.at_,.bool p.rev]=jf (trS x p x.ref x.rev x.past) m:=rfl
theorem ael(x:Tr)(m:kZ)(p:Ps)(d:Int)(j:Bool)(ps n:Int):(jf (trS x p d j ps) m).setIfInBounds 38 (.int .i64 n)=jf (trS x p d j n) m:=rfl
theorem am6(x:Tr)(m:kZ)(p:Ps)(d:Int)(j:Bool)(ps:Int):(jf (trS x p d j ps) m)[38]? =some (.int .i64 ps):=rfl
theorem aiw(x:Tr)(m:kZ)(p:Ps)(d:Int)(j:Bool)(ps:Int):(jf (trS x p d j ps) m)[42]? =some (.slice m.v.A1 m.v.n1 m.v.c1):=rfl
theorem aaG{m:kZ}{q:Ps}{r0 p0 r p:Int}{j d:Bool}(N:Stp [(g,some 37),(g,some 39),(g,some 38)] w W)(M:fK w g 44 (jf (trS x q r0 j p0) m))(H:uG g 48 37 44 r undef W)(K:uG g 48 39 44 d undef W)(J:uG g 48 38 44 p undef W):fK W g 44 (jf (trS x q r d p) m):=by
 have e:jf (trS x q r d p) m=(((jf (trS x q r0 j p0) m).setIfInBounds 37 r).setIfInBounds 39 d).setIfInBounds 38 p:=rfl;refine abq (n:=48) N M _ rfl (by simp) ?_;intro i hi;by_cases a:i=37;·subst a;exact .inr ⟨_,rfl,H⟩
 ·by_cases b:i=39;·subst b;exact .inr ⟨_,rfl,K⟩
  ·by_cases c:i=38;(·subst c;exact .inr ⟨_,rfl,J⟩);·refine .inl ⟨?_,by simp[a,b,c]⟩;rw[e];simp[Array.getElem?_setIfInBounds,Ne.symm a,Ne.symm b,Ne.symm c]
theorem aem{fr kL:Int}{k:Nat}{g:Bl}{r:Int × Int × Bool × Int}(h:t.jW[k]? =some g):Iy t x fr kL (t.jW.drop k) r=match x.ma.path.find? (λs=>decide (s.edge=g.edge)) with
  |none=>Iy t x fr kL (t.jW.drop (k+1)) r
  |some s=>if r.1<(F5 t x.ma.path ⟨g.edge,g.at_,s.rev⟩).1/\(F5 t x.ma.path ⟨g.edge,g.at_,s.rev⟩).1<=kL then Iy t x fr kL (t.jW.drop (k+1)) ((F5 t x.ma.path ⟨g.edge,g.at_,s.rev⟩).1,g.id,s.rev,kL-(F5 t x.ma.path ⟨g.edge,g.at_,s.rev⟩).1) else Iy t x fr kL (t.jW.drop (k+1)) r:=by
  rw[ark h,Iy]
  cases x.ma.path.find? (λs=>decide (s.edge=g.edge)) <;> rfl
theorem XH{a:Int}(h:jR t x=some a):(rZ t x.ma).2=true/\Nw t x.ma=some (rZ t x.ma).1:=by
 unfold jR at h;split at h;·unfold qZ at h;have d:=Yq t x.ma;grind
 grind
theorem UJ{m:Ma}(h:rX t m=true)(age:Int):0<=jB m.fP age 0/\jB m.fP age 0<=100000000:=by obtain⟨r0,r1⟩:=JD h age;obtain⟨d,K,_,_,_,M,_,_,z,H,N⟩:=NM h;obtain⟨l1,l2,l3⟩:=arW d H;have j:=zY l1;have J:=qI (jC d) m.path j.2.2.1;rw[JC (jC d) l1]at l2;omega
def qF (t:Tp) (x:Tr) (n now:Int):Tr:=if rC t x n now=0 then zW t x n else x
theorem ag0{m:jl}(h:jE w t m)(x:Tr)(j:kZ)(M:zJ w x j)(n now:Int)(XI:jK now=true):Calls aj 31 #[.agg m.cells,.agg (jf x j),.int .i64 n,.int .i64 now] w λe w'=>e=.returned (.tuple #[.agg (jf (qF t x n now) j),.int .i64 (rC t x n now)])/\w w':=by
 have d:Own w _ [_,_,_]:=Own.start3 w 27 44 44 m.cells (jf x j) fY;have an:=d.b0.cell;have ad:=λW (O:w W)=>Bj (h.below O) x j (M.below O);have af:=λW (O:w W)=>I5 x.ma j.v (now-x.at_) W (M.ma.below O);have N:rC t x n now=match jR t x with|none=>6|some a=>if x.stops≠ [] then 6 else if n<1 then 1 else if jB x.ma.fP (now-x.at_) 0-a<n then 141 else 0:=rfl
 have U:qF t x n now=if rC t x n now=0 then zW t x n else x:=rfl
 have bb:=M.e3;have bf:x.stops≠ []<->0<j.n3:=by rw[<-bb];exact⟨List.length_pos_iff.2,List.length_pos_iff.1⟩
 simp only[bf]at N;clear bf bb;unfold jK at XI;simp only[bM,decide_eq_true_eq]at XI;obtain⟨ci,cm⟩:=XI;generalize rC t x n now=me at*;generalize qF t x n now=mr at*;have ct:=afL x j;have cu:=afM x j;have cw:=afN x j;have cx:=afO x j;have cy:=alQ x j;have cz:=acf x j;have cA:=acg x j;have cB:=Zy x j;have cC:=Wj x j;have cD:=ach x j;have cE:=ai0 x j;have cF:=ai1 x j;have cG:=Wn x j;rcases hfr:jR t x with _ |a;focus(rw[hfr]at N ad;obtain rfl:me=6:=N;obtain rfl:x=mr:=U.symm;clear U;clear hfr;unfold rE at ad)
 rotate_left;focus(
  obtain⟨a0,aL,a4,UK⟩:=EI hfr;obtain⟨a9,av⟩:=XH hfr;have ak:=(Le t x).1 aL;obtain⟨r0,r1⟩:=UJ UK (now-x.at_);have cd:a<=100000000:=by unfold jR at hfr;rw[if_pos ⟨aL,a4⟩]at hfr;unfold qZ at hfr;rw[av]at hfr;simp only at hfr;split at hfr;(·simp at hfr;have:=EL t x.ma.path x.pos;have:=DI t x.ma;omega);·cases hfr
  have HF:=ah hfr;have HB:=ah av;have ae:=ah a9;obtain⟨_,_,_,_,_,_,_,_,_,p0,p1,q0,q1⟩:=ak;rw[hfr]at N ad;simp only at N;clear hfr aL a4 av a9;generalize bN:jB x.ma.fP (now-x.at_) 0=rr at*;clear bN;unfold rE at ad;by_cases h1:0<j.n3;focus(rw[if_pos h1]at N;subst N;obtain rfl:x=mr:=U.symm;clear U;(have f1:decide (0<(j.n3:Int))=true:=by simpa using h1);clear HF HB ae)
  rotate_left;focus(
   rw[if_neg h1]at N;(have f1:decide (0<(j.n3:Int))=false:=by simpa using h1);by_cases h2:n<1;(focus(rw[if_pos h2]at N;subst N;obtain rfl:x=mr:=U.symm;clear U;(have f2:decide (n<1)=true:=by simpa using h2);clear HF HB ae));rotate_left;focus(
    rw[if_neg h2]at N;(have f2:decide (n<1)=false:=by simpa using h2);by_cases h3:rr-a<n;(focus(rw[if_pos h3]at N;subst N;obtain rfl:x=mr:=U.symm;clear U;(have f3:decide (rr-a<n)=true:=by simpa using h3);clear HF HB ae));rotate_left;focus(
     rw[if_neg h3]at N;subst N;rw[if_pos rfl]at U;(have f3:decide (rr-a<n)=false:=by simpa using h3);obtain⟨b0,b1⟩:=DI t x.ma;have am:=λW (O:w W)=>ab4 (h.below O) x.ma j.v (M.ma.below O);rw[ae.out]at am;(have ak:mr=(let r:=Iy t x ((rZ t x.ma).1+a) ((rZ t x.ma).1+a+n) t.jW ((rZ t x.ma).1+a,x.ref,x.rev,x.past+n);{x with pos:=Zm t x.ma.path ((rZ t x.ma).1+a+n),ref:=r.2.1,rev:=r.2.2.1,past:=r.2.2.2}):=by rw[U];unfold zW;rw[HF.out,HB.out]);clear U HF HB ae;generalize (rZ t x.ma).1=b at*;have bd:=λW (O:w W)=>am5 (h.below O) j.v.A1 j.v.n1 j.v.c1 x.ma.path (b+a+n) (M.ma.path.below O) M.ma.e1 M.ma.l1;generalize Zm t x.ma.path (b+a+n)=op at*;generalize Zl t x.ma.path (b+a+n)=oe at*;obtain⟨Y,Z,o3⟩:=op;have bi:=ah ak;clear ak;have ch:=h.l3;unfold nO at af am;unfold jl.cells at*;go_enter func31,ntmps31;go_wp2_with(first|((with_reducible refine iQ d ?_ _ rfl rfl _ bg rfl (iF _ j) ?_);(·first|rfl|(simp[aF,yielded];done)))|(go_at_call 14;(with_reducible refine(ad _ d.below).mono ?_);rintro e fU⟨rfl,J⟩;replace d:=d.grow J;have uU:=d.b0.cell;have MX:=d.b1.cell)|(go_at_call 40;(with_reducible refine(af _ d.below).mono ?_);rintro e fU⟨rfl,J⟩;replace d:=d.grow J;have EF:=d.b0.cell;have UL:=d.b1.cell)|(go_at_call 64;(with_reducible refine(am _ d.below).mono ?_);rintro e w3⟨rfl,al⟩;replace d:=d.grow al;have bk:=d.b0.cell;have bm:=d.b1.cell)|(go_at_call 65;(with_reducible refine(bd _ d.below).mono ?_);rintro e fU⟨rfl,J⟩;replace d:=d.grow J)|((with_reducible refine abr 34 (#[.int .i64 Y,.int .i64 Z,.bool o3]) d rfl 38 _ _ rfl rfl rfl (by kernel_rfl) ?_ ?_ ?_);(·show 37<=48;decide);(·simp[aK]);intro fU J iG jQ;replace d:=J;clear J iG jQ;rw[agZ x j ⟨Y,Z,o3⟩]at d;have bn:=d.b1.cell;have bX:=am6 x j ⟨Y,Z,o3⟩ x.ref x.rev x.past;have bo:=d.b1.frozen;have bq:=d.b0.cell));replace d:=Own.apj d 38 (.int .i64 (x.past+n));rw[ael x j ⟨Y,Z,o3⟩ x.ref x.rev x.past (x.past+n)]at d;clear an uU MX EF UL bk bm bn bX bo bq ad af am bd f1 f2 f3;go_loopw [16,87] (λbe i wr=> ∃(k:Nat) (aa rf:Int) (rv:Bool) (ps:Int),i=.int .i64 k/\k<=m.n3/\be=.int .i64 aa/\Hid (Iy t x (b+a) (b+a+n) t.jW (b+a,x.ref,x.rev,x.past+n)=Iy t x (b+a) (b+a+n) (t.jW.drop k) (aa,rf,rv,ps))/\Own w wr [(w,27,#[.slice m.A1 m.n1 m.c1,.slice m.A2 m.n2 m.c2,.slice m.A3 m.n3 m.c3,.slice m.A4 m.n4 m.c4]),(w.heap.size+1,44,jf (trS x ⟨Y,Z,o3⟩ rf rv ps) j),(w.heap.size+1+1,44,fY)]) (λ_ i _=>m.n3-(intOf i).toNat);(case atStart=>exact⟨0,b+a,x.ref,x.rev,x.past+n,rfl,aV _,rfl,ah (by simp),d⟩);case round=>
      clear d;obtain⟨k,aa,rf,rv,ps,rfl,K,rfl,hap,d⟩:=hrel;have an:=d.b0.cell;have bE:=d.b2.lt;have ca:=aiw x j ⟨Y,Z,o3⟩ rf rv ps;by_cases bB:k<m.n3;focus(
       obtain⟨g,hg⟩:=aq5 h.e3 bB;obtain⟨gg,ag,a7,aD,aM,aR,a1⟩:=h.lies.jW.bl hg;have Cm:=(d.below.cell (p:=⟨gg,ag+k*3,none⟩) aD).trans aM;have CB:=(d.below.cell (p:=⟨gg,ag+k*3+1,none⟩) aD).trans aR;have RZ:=(d.below.cell (p:=⟨gg,ag+k*3+2,none⟩) aD).trans a1;have Q:=aem (t:=t) (x:=x) (fr:=b+a) (kL:=b+a+n) (r:=(aa,rf,rv,ps)) hg;rw[<-hap.out]at Q;obtain⟨g1,g2,g3⟩:=g;simp only at Cm CB RZ Q;have V:=Own.abu d 114 #[.int .i64 g1,.int .i64 g2,.int .i64 g3];have uU:=V.b0.cell;have MX:=V.b1.cell;have a5:=V.b3.cell;have ac:=Yi 67 QH #[.pointer (some ⟨wr,0,none⟩)] (λs=>decide (s.edge=g2)) j.v.A1 j.v.n1 j.v.c1 x.ma.path _ (λW' y ar=>(aej y g2 wr W' ((ar.cell (p:=⟨wr,1,none⟩) V.b3.lt).trans (a5 1)) (aU V.b3.lt ar.size)).mono λ_ _ h=>⟨h.1,gZ ar h.2⟩) (M.ma.path.below V.below) M.ma.e1 (by have:=M.ma.l1;omega);unfold Lib.idxBy at ac;clear aM aR a1 hg;simp only[a7]at d V an uU ac ⊢;rcases F9 (λs:St=>decide (s.edge=g2)) x.ma.path 0 with⟨bh,j1,j2,j3⟩ |⟨j1,j2⟩;focus(
        obtain⟨s,hs⟩:=Option.isSome_iff_exists.1 j3;rw[hs]at Q j2;rw[j1,aJ]at ac;obtain⟨gp,bu,hP,ZW,c0,c1⟩:=M.ma.path.st j2;(have cg:bh<j.v.n1:=by rw[<-M.ma.e1];exact(aX.1 j2).1);have cf:j.v.n1<=100:=M.ma.l1;have kp:=λW (O:w W)=>(O.cell (p:=⟨gp,bu+bh*2+1,none⟩) ZW).trans c1;have aE:=λW (O:w W)=>aiX (h.below O) j.v.A1 j.v.n1 j.v.c1 x.ma.path ⟨g2,g3,s.rev⟩ (M.ma.path.below O) M.ma.e1 M.ma.l1;obtain⟨bR,bS⟩:=EL t x.ma.path ⟨g2,g3,s.rev⟩;obtain⟨s1,s2⟩:=s;simp only at Q aE kp bR bS;generalize (F5 t x.ma.path ⟨g2,g3,s2⟩).1=o at*;generalize (F5 t x.ma.path ⟨g2,g3,s2⟩).2=cn at*;simp only[jl.cells,a7,hP]at aE ac ca ⊢;clear j1 j2 j3 hs c0 c1;go_wp2_with(first|(go_at_call 66;(with_reducible refine ac.mono ?_);rintro e fU⟨rfl,J⟩;replace d:=V.grow J));clear an uU MX a5 ac V;apply jJ [];(case lX=>intro u;simp only[bV,aq9,aP,ay,aA,aB,aT,aJ];rfl);(case hm=>kernel_rfl);(case hB=>kernel_rfl);(case hap=>kernel_rfl);(repeat(first|(apply jI.is;·(intro u w' K H;simp[fH,aC,Is]at H;refine fC ?_ ?_;(·(first|rfl|(simp[aF,yielded,H];done)));intro bj hK;have ai:=d.below.trans (K.below d.below.size (by intro k o h;simp at h));have bx:=(K.blk d.b0 (by intro o h;simp at h)).cell;have ba:=(K.blk d.b1 (by intro o h;simp at h)).cell;have az:=(K.blk d.b3 (by intro o h;simp at h)).cell;have bO:=kp _ ai;go_wp2_with(go_at_call 68;(with_reducible refine(aE _ ai).mono ?_);rintro e w3⟨rfl,al⟩);(try simp only[H]at hK);refine hK _ _ ?_ rfl;first|exact Stp.refl _ _|exact Stp.of_below al _))));refine jI.nil ?_ ?_;(·simp[W2.fit,qy]);intro u w7 K H;simp only[gQ]at H;have ap:=H 20 _ rfl;simp only[Is]at ap;clear H;simp only[ap];have a8:=K.below ig (by intro k o h;simp at h);replace d:=d.grow a8;clear K a8 ap;have bA:w.heap.size+1+1<wr.heap.size:=bE;have ba:=d.b1.cell;have az:=d.b3.cell;by_cases c1:aa<o;focus(
         (have f1:decide (aa<o)=true:=by simpa using c1);by_cases c2:o<=b+a+n
         ·(have f2:decide (o<=b+a+n)=true:=by simpa using c2);have HS:=ah (Q.trans (if_pos ⟨c1,c2⟩));clear Q hap;go_wp2_with fail;clear ba az;apply jJ [(w.heap.size+1,some 37),(w.heap.size+1,some 39),(w.heap.size+1,some 38)];(case lX=>intro u;simp only[bV,aq9,aP,ay,aA,aB,aT,aJ];rfl);(case hm=>kernel_rfl);(case hB=>kernel_rfl);case hap=>kernel_rfl
          repeat(first
             |(apply jI.is
               ·
                 (intro u w' K H
                  simp[fH,aC,Is]at H
                  refine fC ?_ ?_
                  ·
                    first
                    |rfl
                    |(simp[aF,yielded,H];done)
                  intro bj hK
                  have ai:=d.below.trans (K.below d.below.size (by intro k o h;simp at h;omega));have bx:=(K.blk d.b0 (by intro o h;simp at h;try omega)).cell;have az:=(K.blk d.b3 (by intro o h;simp at h;have:=d.b1.lt;have:=bA;omega)).cell;have bO:=kp _ ai;have cc:=aek K d.b1 42 (by simp) (by simp) (aiw x j ⟨Y,Z,o3⟩ rf rv ps)
                  go_wp2_with (fail)
                  try simp only[H]at hK
                  refine hK _ _ ?_ rfl
                  first |exact Stp.refl _ _ |exact Stp.of_below al _))
             |(refine jI.cell (w.heap.size + 1) 48 37 44 _ (.int .i64 g1) (by simp) d.b1 rfl (by decide) _ _ _ rfl (by kernel_rfl) (by simp [aK, q32, q64]) ?_ ?_
               ·
                 (intro u w' K H
                  simp[fH,aC,Is]at H
                  refine⟨?_,?_,?_⟩
                  ·
                    first
                    |rfl
                    |(simp[aF,yielded,H];done)
                  ·
                    first
                    |rfl
                    |(simp[Act.eval,H];done)
                  ·
                    first
                    |rfl
                    |(simp[Act.eval,H];done)))
             |(refine jI.cell (w.heap.size + 1) 48 39 44 _ (.bool s2) (by simp) d.b1 rfl (by decide) _ _ _ rfl (by kernel_rfl) (by simp [aK, q32, q64]) ?_ ?_
               ·
                 (intro u w' K H
                  simp[fH,aC,Is]at H
                  refine⟨?_,?_,?_⟩
                  ·
                    first
                    |rfl
                    |(simp[aF,yielded,H];done)
                  ·
                    first
                    |rfl
                    |(simp[Act.eval,H];done)
                  ·
                    first
                    |rfl
                    |(simp[Act.eval,H];done)))
             |(refine jI.cell (w.heap.size + 1) 48 38 44 _ (.int .i64 (b + a + n - o)) (by simp) d.b1 rfl (by decide) _ _ _ rfl (by kernel_rfl) (by simp [aK, q32, q64]) ?_ ?_
               ·
                 (intro u w' K H
                  simp[fH,aC,Is]at H
                  refine⟨?_,?_,?_⟩
                  ·
                    first
                    |rfl
                    |(simp[aF,yielded,H];done)
                  ·
                    first
                    |rfl
                    |(simp[Act.eval,H];done)
                  ·
                    first
                    |rfl
                    |(simp[Act.eval,H];done))))
          refine jI.nil ?_ ?_;(·simp[W2.fit,qy]);intro u w7 K H;simp only[gQ]at H;have a6:=H 13 _ rfl;have aq:=H 15 _ rfl;have ax:=H 17 _ rfl;have aw:=H 19 _ rfl;simp only[Is]at a6;simp only at aq ax aw;clear H;have bc:=aaG K d.b1 aq ax aw;(have bw:Own w w7 [(w,27,#[.slice m.A1 m.n1 m.c1,.slice m.A2 m.n2 m.c2,.slice (some ⟨gg,ag,none⟩) m.n3 m.c3,.slice m.A4 m.n4 m.c4]),(w.heap.size+1,44,jf (trS x ⟨Y,Z,o3⟩ g1 s2 (b+a+n-o)) j),(w.heap.size+1+1,44,fY)]:=by refine⟨d.below.trans (K.below d.below.size (by intro k o h;simp at h;omega)),λy hy=>?_,by simp;omega⟩;simp at hy;rcases hy with rfl |rfl |rfl;(·exact⟨aW _,K.blk d.b0 (by intro o h;simp at h;try omega)⟩);(·exact⟨by simp,bc⟩);·exact⟨by simp;omega,K.blk d.b2 (by intro o h;simp at h;try omega)⟩);clear bc aq ax aw K;simp only[a6];go_wp2_with fail;go_roundw;(case rel=>exact⟨k+1,o,g1,s2,b+a+n-o,by go_num,by omega,rfl,HS,bw⟩);case measure=>simp[intOf];omega
         focus((have f2:decide (o<=b+a+n)=false:=by simpa using c2);have HS:=ah (Q.trans (if_neg (λhh=>c2 hh.2)))))
        rotate_left;focus((have f1:decide (aa<o)=false:=by simpa using c1);have HS:=ah (Q.trans (if_neg (λhh=>c1 hh.1)))))
       rotate_left 2;·rw[j2]at Q;rw[j1]at ac;have HS:=ah Q;clear Q hap j1 j2;go_wp2_with(first|(go_at_call 66;(with_reducible refine ac.mono ?_);rintro e fU⟨rfl,J⟩;replace d:=V.grow J));go_roundw;(case rel=>exact⟨k+1,aa,rf,rv,ps,by go_num,by omega,rfl,HS,⟨d.below,λx M=>d.blk x (by simp at M;rcases M with rfl |rfl |rfl <;> simp),by simp;omega⟩⟩);case measure=>simp[intOf];omega)
      rotate_left 2;(·(obtain rfl:k=m.n3:=by omega);have au:=hap.out;rw[dJ (by rw[h.e3];exact aW _)]at au;(have bL:mr=trS x ⟨Y,Z,o3⟩ rf rv ps:=by have h5:=bi.out;rw[au]at h5;exact h5);subst bL;clear hap au;go_wp2_with(first|((with_reducible refine iQ d ?_ _ rfl rfl _ bg rfl (iF _ j) ?_);(·first|rfl|(simp[aF,yielded];done)))|((with_reducible refine jv (jf (trS x ⟨Y,Z,o3⟩ rf rv ps) j) d rfl _ _ rfl rfl rfl (iF _ j) rfl (lM _ j) ?_);intro fU J iG jQ;replace d:=J;clear J));exact bodyPost_ret (gU results31 _ _ _ _ _ _ rfl rfl d.b2 bg rfl (iF _ j)) rfl ⟨rfl,d.below⟩);all_goals(clear Q hap;go_wp2_with fail;go_roundw;(case rel=>exact⟨k+1,aa,rf,rv,ps,by go_num,by omega,rfl,HS,⟨d.below,λx M=>d.blk x (by simp at M;rcases M with rfl |rfl |rfl <;> simp),by simp;omega⟩⟩);case measure=>simp[intOf];omega)))))
 all_goals(unfold nO at af;unfold jl.cells at*;go_enter func31,ntmps31;go_wp2_with(first|((with_reducible refine iQ d ?_ _ rfl rfl _ bg rfl (iF _ j) ?_);(·first|rfl|(simp[aF,yielded];done)))|(go_at_call 14;(with_reducible refine(ad _ d.below).mono ?_);rintro e fU⟨rfl,J⟩;replace d:=d.grow J;have uU:=d.b0.cell;have MX:=d.b1.cell)|((with_reducible refine jv (jf x j) d rfl _ _ rfl rfl rfl (iF _ j) rfl (lM _ j) ?_);intro fU J iG jQ;replace d:=J;clear J)|(go_at_call 40;(with_reducible refine(af _ d.below).mono ?_);rintro e fU⟨rfl,J⟩;replace d:=d.grow J;have EF:=d.b0.cell;have UL:=d.b1.cell));exact bodyPost_ret (gU results31 _ _ _ _ _ _ rfl rfl d.b2 bg rfl (iF _ j)) rfl ⟨by first |rfl |simp,d.below⟩)
def Lh (id:Int):Bool:=decide (id=132) || decide (id=136) || decide (id=147) || decide (id=157)
def IW (now:Int) (c:Cp) (id:Int) (v:List Int):Ms:=⟨id,Z5 c.x.last now,0,c.x.id,v,if Lh id then [⟨0,MH c.x⟩] else []⟩
def nY (now:Int) (c:Cp) (id:Int) (v:List Int):Cp × Int:=if Ub c.x.last now≠0 then(c,Ub c.x.last now) else if Lh id=true/\rpE c.x≠0 then(c,rpE c.x) else match DY (IW now c id v) with
 | .error e=>(c,e)
 | .ok b=>if wz c.peer b≠0 then(c,wz c.peer b) else(nM (c.setLast (Z5 c.x.last now)) (yh c.peer b),0)
def Lj (now:Int) (c:Cp) (id:Int) (v:List Int):Cp × Int:=if c.x.on=false then(c,6) else nY now c id v
def QI (c:Cp):Cp × Int:=if MP c.peer≠0 then(c,MP c.peer) else(nM (((c.ou (adW c.peer c.nx)).su false).Uz (c.nx+1)) (aav c.peer c.nx),0)
def QJ (c:Cp) (why:UInt8):Cp × Int:=if IV c.peer≠0 then(c,IV c.peer) else(nM ((c.ou (arV c.peer)).su false) (MQ c.peer why),0)
def pJ (x:Tr):Tr:={x with ma:=⟨0,false,[],[],0⟩,at_:=0,held:=false}
def OA (now:Int) (c:Cp):Cp:=if c.x.held=true/\jB c.x.ma.fP (wrap64 (now-c.x.at_)) 0=0 then c.rQ (pJ c.x) else c
def Dn (m:Ms):Bool:=match m.p with
 | []=>false
 |p::_=>match p.v with
   | []=>false
   |n::_=>decide (n=0)
def atM (m:Ms):Int:=wrap64 (m.t.tdiv 8)
def FQ (t:Tp) (now:Int) (c:Cp) (m:Ms):Cp:=if c.x.on=false\/0<c.x.stops.length then c else match ql t m.sS (Dn m) m.p with
 | .error _=>c
 | .ok n=>if 268435456<atM m then c else
   match qZ t n c.x.pos with
   |none=>c
   |some f=>if f<jB n.fP (wrap64 (now-atM m)) 0 then((c.kP n).setAt (atM m)).wU true else c
def Hf (m:Ma):Int:=qg m
def Cc (path w:List St):Bool:=decide (w.length<=path.length)&&decide (path.take w.length=w)
def oW (t:Tp) (c:Cp) (m:Ms):Cp × Bool:=match jR t c.x with
 |none=>(c,false)
 |some f=>if m.sS≠c.x.ma.ref then(c,false) else
   match ql t m.sS c.x.ma.rev m.p with
   | .error _=>(c,false)
   | .ok n=>if Cc c.x.ma.path n.path=false\/Hf c.x.ma<Hf n\/Hf n<wrap64 (f+c.x.rl.wI) then(c,false) else(c.kP (nN c.x.ma (Hf n)),true)
def Bo (t:Tp) (c:Cp) (m:Ms):Cp × Int:=match jR t c.x with
 |none=>(c,1)
 |some f=>if Ud (m.v.getD 4 0) (m.v.getD 1 0)≠0\/m.sS≠c.x.ma.ref\/II (m.v.getD 4 0) (m.v.getD 1 0)<f then(c,1) else(if(nN c.x.ma (II (m.v.getD 4 0) (m.v.getD 1 0))).fP.length=0 then(c.kP (nN c.x.ma (II (m.v.getD 4 0) (m.v.getD 1 0)))).rQ (pJ (c.kP (nN c.x.ma (II (m.v.getD 4 0) (m.v.getD 1 0)))).x) else c.kP (nN c.x.ma (II (m.v.getD 4 0) (m.v.getD 1 0))),0)
def Hg (l:List Int) (n:Int):Nat:=l.countP (· <n)
def XJ (l:List Int) (n:Int):List Int:=if n∈l then l else l.take (Hg l n)++n::l.drop (Hg l n)
def kT (t:Tp) (now:Int) (c:Cp) (m:Ms):Cp:=if m.id=32 then(if m.v.headD 0=16 then(nY now (nY now (c.su true) 159 []).1 157 [1]).1 else c) else if m.id=3 then FQ t now c m else if m.id=9 then(nY now (oW t c m).1 (if(oW t c m).2 then 137 else 138) [m.t]).1 else if m.id=15 then(nY now (Bo t c m).1 147 [m.v.headD 0,(Bo t c m).2]).1 else if m.id=16 then(nY now ((c.lT (XJ c.x.stops (m.v.headD 0))).rQ (pJ (c.lT (XJ c.x.stops (m.v.headD 0))).x)) 147 [m.v.headD 0,2]).1 else if m.id=18 then c.lT (c.x.stops.filter fun n=>decide (n≠m.v.headD 0)) else if m.id=39 then(QJ c 0).1 else c
def UM (now:Int) (c:Cp) (m:Ms):Cp:=(nY now c 146 [m.t]).1
def Bv (t:Tp) (now:Int) (c:Cp) (q:P7):Cp × Int:=if jw c.peer q 5≠0 then(c,jw c.peer q 5) else match arN q.body with
 | .error e=>(c,e)
 | .ok m=>if PW m.id=true then(c,1) else if Dl c.x.sl c.x.sa c.x.sb c.x.free m.t (now*8)=110/\m.ack=1/\m.t=c.x.sl then(UM now c m,0) else if Dl c.x.sl c.x.sa c.x.sb c.x.free m.t (now*8)≠0 then(c,Dl c.x.sl c.x.sa c.x.sb c.x.free m.t (now*8)) else(if m.ack=1 then UM now (kT t now (c.nV m.t c.x.sa c.x.sb false) m) m else kT t now (c.nV m.t c.x.sa c.x.sb false) m,0)
def wW (t:Tp) (now:Int) (c:Cp) (b:List UInt8):Cp × Int:=match vY b with
 |none=>(c,8)
 |some q=>if q.kind=2 then(if iT c.peer q≠0 then(c,iT c.peer q) else((nY now (nM ((c.ou (wu c.peer q)).su false) (rP c.peer q)) 155 []).1,0))
   else if q.kind=6 then(if jw c.peer q 6≠0 then(c,jw c.peer q 6) else((c.ou (GY c.peer q)).su false,0))
   else if q.kind=5 then Bv t now c q
   else(c,1)
theorem aeo{l:List (Int × Int)}(h:C9 l=.error er):er≠0:=by unfold C9 at h;grind
theorem Ii: ∀ {l:List Pk} {er:Int},jd l=.error er->er≠0
 | [],_,h=>by cases h
 |p::ps,er,h=>by
  rw[jd]at h;cases hi:mO p with
  |error e=>rw[hi]at h;cases h;exact Gw hi
  |ok x=>
   rw[hi]at h;cases d:jd ps with
   |error e=>rw[d]at h;cases h;exact Ii d
   |ok y=>grind
theorem ag2{m:Ms}(h:DY m=.error er):er≠0:=by
 unfold DY at h;split at h;·grind
 split at h;·grind
 split at h;·grind
 cases hi:jd m.p with
 |error e=>rw[hi]at h;cases h;exact Ii hi
 |ok d=>
  rw[hi]at h;simp only at h;split at h;·grind
  ·exact aeo h
theorem aaH(h:Ub s.x.last now≠0):nY now s.plain id v=(s.plain,Ub s.x.last now):=by unfold nY;exact if_pos h
theorem aep(h:Ub s.x.last now=0)(j:Lh id=true)(H:rpE s.x≠0):nY now s.plain id v=(s.plain,rpE s.x):=by unfold nY;rw[if_neg (λd=>d h)];exact if_pos ⟨j,H⟩
theorem aer(h:Ub s.x.last now=0)(j: ¬(Lh id=true/\rpE s.x≠0)):nY now s.plain id v=match DY (IW now s.plain id v) with
    | .error e=>(s.plain,e)
    | .ok b=>if wz s.plain.peer b≠0 then(s.plain,wz s.plain.peer b) else(nM (s.plain.setLast (Z5 s.x.last now)) (yh s.plain.peer b),0):=by
  unfold nY
  rw[if_neg (λd=>d h)]
  exact if_neg j
theorem aes(h:Lh id=false):oC (IW now s.plain id v) ⟨A,c,none,0⟩= #[.int .i64 id,.int .i64 (Z5 s.x.last now),.int .i64 0,.int .i64 s.x.id,.slice A v.length c,.slice none 0 0]:=by unfold oC IW;rw[h];rfl
theorem aeu{B:Option Addr}(h:Lh id=true):oC (IW now s.plain id v) ⟨A,c,B,1⟩= #[.int .i64 id,.int .i64 (Z5 s.x.last now),.int .i64 0,.int .i64 s.x.id,.slice A v.length c,.slice B 1 1]:=by unfold oC IW;rw[h];rfl
theorem Own.one{x:Bk}(h:Own w W (x::L)):Own w W [x]:=⟨h.below,λy d=>h.blk y (bJ.2 (.inl (by grind))),by simp⟩
theorem aaI{p:gG}{bs:List UInt8}(h:bs.length<=1023):(yh p bs).body.length<=2000:=by
 unfold yh;split
 ·have:(jA p.key (yg p bs)).body=bs:=by unfold jA;split <;> rfl
  grind
 decide
def iK (w0:World) (Bq g:Nat) (tm:jl) (now:Int) (s:Cs) (W:World) (R:Cp × Int) (e:Ending) (W':World):Prop:=e=.returned (.int .i64 R.2)/\pY w0 Bq g tm now s W R.1 W'
theorem iK.same{W':World}{e:Ending}(h:iJ w0 Bq g tm now s W)(d:W W')(j:e=.returned er):iK w0 Bq g tm now s W (s.plain,er) e W':=⟨j,pY.same h d⟩
theorem XK(now:Int)(c:Cp)(id:Int)(v:List Int):(IW now c id v).p=if Lh id then [⟨0,MH c.x⟩] else []:=rfl
theorem ag3(x:Tr):(MH x).length<=13:=by unfold MH;split <;> simp
theorem akG{c:Cp}(H:fE aq7 W A v)(hc:v.length<=cv)(J:v.length<=100)(j:Lh id=false):P8 W (IW now c id v) ⟨A,cv,none,0⟩:=by
 have d:(IW now c id v).p= []:=by rw[XK,j];rfl
 exact⟨H,by rw[d];exact⟨[],fE.nil _ _,rfl,rfl,λi x p K=>by cases K⟩,hc,by grind,aG J (by decide),by grind,by grind⟩
theorem ag4{c:Cp}{b:Nat}{A2:Option Addr}(N:fE aq7 W A v)(hc:v.length<=cv)(O:v.length<=100)(M:Lh id=true)(K:fK W b 198 #[zI,.slice A2 (MH c.x).length (MH c.x).length])(J:fE aq7 W A2 (MH c.x)):P8 W (IW now c id v) ⟨A,cv,b,1⟩:=by
 have d:(IW now c id v).p= [⟨0,MH c.x⟩]:=by rw[XK,M];rfl
 have H:=ag3 c.x
 exact ⟨N, by rw [d]; exact ⟨[⟨0, A2, (MH c.x).length, (MH c.x).length⟩], Ob K, rfl, rfl, λi x p j d=> by
   cases i with
   |zero=>
     simp only[eP,aO]at j d
     subst j
     subst d
     exact⟨rfl,aW _,aG H (by decide),J⟩
   |succ i=>simp at j⟩,hc,by rw[d];exact aW _,aG O (by decide),by rw[d];exact(by decide:1<=60000),by
     rw[d]
     intro p d
     simp only[dN]at d
     subst d
     exact aG H (by decide)⟩
theorem QK(tm:jl)(now:Int)(s:Cs):(s.cells tm now).all (λv=> !is8 v)=true:=by simp[Cs.cells,cbC,is8,q32]
theorem UN(hT:Tab w0)(h:iJ w0 Bq g tm now s W)(id:Int)(v:List Int)(A:Option Addr)(n c:Nat)(hv:fE aq7 W A v)(hn:n=v.length)(hc:n<=c)(a8:v.length<=100)(cg:s.out.length<=90)(cf: -1<=s.x.last):
    Calls aj 61 #[.pointer (some ⟨g,0,none⟩),.int .i64 id,.slice A n c] W (iK w0 Bq g tm now s W (nY now s.plain id v)):=by
  obtain⟨R,hR⟩:=fD (nY now s.plain id v)
  rw[<-hR]
  have HR:=ah hR
  have K:=ah h
  have HN:=ah hn
  have ap:=λW=>agm s.x.last now (by omega) W
  obtain⟨te,a5⟩:=fD (Ub s.x.last now)
  obtain⟨tn,a6⟩:=fD (Z5 s.x.last now)
  rw[<-a5,<-a6]at ap
  have ai:=ah a5
  have ar:=ah a6
  have bN:(s.cells tm now)[36]? =some (.int .i64 s.x.last):=rfl
  have bO:(s.cells tm now)[52]? =some (.int .i64 now):=rfl
  have c4:(s.cells tm now)[4]? =some (.int .i64 s.x.id):=rfl
  have aR:=h.blk
  have bi:=aR.lt
  clear hR a5 a6 hn cf
  go_enter func61,ntmps61
  go_upto_region 1 with fail
  apply jJ []
  case lX=>intro u;simp only[bV,aq9,aP,ay,aA,aB,aT,aJ];rfl
  case hm=>kernel_rfl
  case hB=>kernel_rfl
  case hap=>kernel_rfl
  repeat (first |(apply jI.is;·(intro u w' N J;simp[fH,aC,Is]at J;refine fC ?_ ?_;(·(first |rfl |(simp[aF,yielded,J];done)));intro cm hK;have N:=N.below ig (by intro k o h;simp at h);have bf:=(aR.below N bi);have am:=bf.cell 36;rw[bN]at am;have ca:=bf.cell 52;rw[bO]at ca;go_wp2_with (((with_reducible refine(ap _).mono ?_);rintro e w3⟨rfl,ci⟩;obtain rfl:=ci.symm));(try simp only[J]at hK);refine hK _ _ ?_ rfl;first |exact Stp.refl _ _ |exact Stp.of_below hb3 _)))
  refine jI.nil ?_ ?_
  ·
    simp[W2.fit,qy]
  intro u w7 N J
  simp only[gQ]at J
  replace N:=N.below ig (by intro k o h;simp at h)
  have ax:=J 13 _ rfl
  have az:=J 14 _ rfl
  simp only[Is]at ax az
  clear J
  simp only[ax,az]
  clear ax az
  have a9:=aR.below N bi
  have am:=a9.cell 4
  rw[c4]at am
  by_cases h0:te=0
  ·
    have e0:(te != 0)=false:=by simpa using h0
    go_upto_region 5 with fail
    obtain⟨ag,hM⟩:=fD (IW now s.plain id v)
    have HM:=ah hM
    clear hM
    have H:=((Own.nil W).grow N).alloc 196 #[.int .i64 id,.int .i64 tn,.int .i64 0,.int .i64 s.x.id,.slice A n c,.slice none 0 0] w7 rfl
    obtain⟨b9,xW⟩:=fD w7.heap.size
    obtain⟨W5,Xg⟩:=fD (w7.alloc (.cells #[.int .i64 id,.int .i64 tn,.int .i64 0,.int .i64 s.x.id,.slice A n c,.slice none 0 0] 196))
    rw[<-Xg,<-xW]at H ⊢
    simp only[aZ]at H
    obtain⟨rp,j⟩:=fD (Lh id)
    have aa:=ah j
    clear Xg xW am a9 N h0 j h
    have a7:=hv.below H.below
    go_cut [52] from 39 (λx W'=>x=.bool rp/\W'=W5)
    case first=>
      clear H a7 ap
      have j:=aa.out
      unfold Lh at j
      by_cases q1:id=132
      ·
        have f1:decide (id=132)=true:=by simpa using q1
        have f0:(id==132)=true:=by simpa using q1
        rw[f1]at j
        clear q1
        go_wp2_with fail
        go_meet
        exact⟨by rw[j];rfl,rfl⟩
      have f1:decide (id=132)=false:=by simpa using q1
      have f0:(id==132)=false:=by simpa using q1
      by_cases q2:id=136
      ·
        have f2:decide (id=136)=true:=by simpa using q2
        have f3:(id==136)=true:=by simpa using q2
        rw[f1,f2]at j
        clear q1 q2
        go_wp2_with fail
        go_meet
        exact⟨by rw[j];rfl,rfl⟩
      have f2:decide (id=136)=false:=by simpa using q2
      have f3:(id==136)=false:=by simpa using q2
      by_cases q4:id=147
      ·
        have f4:decide (id=147)=true:=by simpa using q4
        have f5:(id==147)=true:=by simpa using q4
        rw[f1,f2,f4]at j
        clear q1 q2 q4
        go_wp2_with fail
        go_meet
        exact⟨by rw[j];rfl,rfl⟩
      have f4:decide (id=147)=false:=by simpa using q4
      have f5:(id==147)=false:=by simpa using q4
      rw[f1,f2,f4]at j
      simp only[Bool.false_or]at j
      by_cases q6:id=157
      ·
        have f6:decide (id=157)=true:=by simpa using q6
        have f7:(id==157)=true:=by simpa using q6
        rw[f6]at j
        clear q1 q2 q4 q6
        go_wp2_with fail
        go_meet
        exact⟨by rw[j],rfl⟩
      have f6:decide (id=157)=false:=by simpa using q6
      have f7:(id==157)=false:=by simpa using q6
      rw[f6]at j
      clear q1 q2 q4 q6
      go_wp2_with fail
      go_meet
      exact⟨by rw[j],rfl⟩
    case rest=>
      obtain⟨rfl,rfl⟩:=hcut
      go_upto_if 52 with fail
      have bw:=ah H
      obtain⟨re,a4⟩:=fD (rpE s.x)
      have aq:=ah a4
      have Y:=Z7 s.x s.m wc
      rw[<-a4]at Y
      clear ap a4
      by_cases ac:rp=true/\re≠0
      ·
        obtain⟨rfl,af⟩:=ac
        have r0:(re != 0)=true:=by simpa using af
        have M:R=(s.plain,re):=by
          rw[HR.out,aq.out]
          refine aep ?_ aa.out.symm ?_
          ·
            rw[<-ai.out];simpa using e0
          ·
            rw[<-aq.out];exact af
        have hC:Own w0 wc [(g,87,s.cells tm now)]:=(K.out.grow H.below).own
        obtain⟨O,ae⟩:=fD ((MH s.x).length)
        rw[<-ae]at Y
        clear ae af
        go_wp2_with (first
          |(with_reducible refine qO hC 4 (jf s.x s.m) (oU tm now s) rfl _ _ rfl rfl _ bg rfl (iF _ _) ?_)
          |((with_reducible refine Y.mono ?_);rintro e w8⟨⟨A8,rfl,P9,aM⟩,al⟩;have Z:=(H.grow al).new1 198 #[.int .i64 0,.slice A8 O O]))
        go_ret
        rw[M]
        exact iK.same K.out Z.below rfl
      ·
        go_cut [10,11] from 53 (λ_ _ W'=> ∃a,Own W W' [(b9,196,oC ag a)]/\P8 W' ag a)
        case first=>
          cases rp with
          |false=>
            clear ac Y
            go_wp2_with fail
            go_meet
            refine⟨⟨A,c,none,0⟩,?_,?_⟩
            ·
              rw[HM.out,aes aa.out.symm,<-ar.out,<-HN.out]
              exact H
            ·
              rw[HM.out]
              exact akG a7 (by rw[<-HN.out];exact hc) a8 aa.out.symm
          |true=>
            have af:re=0:=by
              rcases Int.lt_trichotomy re 0 with q |q |q
              ·
                exact absurd ⟨rfl,by omega⟩ ac
              ·
                exact q
              ·
                exact absurd ⟨rfl,by omega⟩ ac
            have r0:(re != 0)=false:=by simpa using af
            have hC:Own w0 wc [(g,87,s.cells tm now)]:=(K.out.grow H.below).own
            obtain⟨O,ae⟩:=fD ((MH s.x).length)
            rw[<-ae]at Y
            have bu:=ah ae
            clear ae af ac
            go_upto_region 9 with (first
              |(with_reducible refine qO hC 4 (jf s.x s.m) (oU tm now s) rfl _ _ rfl rfl _ bg rfl (iF _ _) ?_)
              |((with_reducible refine Y.mono ?_);rintro e w8⟨⟨A8,rfl,P9,aM⟩,al⟩;have Z:=(H.grow al).new1 198 #[.int .i64 0,.slice A8 O O]))
            have bd:=Z.b1.cell
            have bX:=Z.b0.cell
            have cd:=Z.b0.frozen
            have bo:=ah aM
            clear aM
            obtain⟨b10,kQ⟩:=fD w8.heap.size
            obtain⟨W8,aE⟩:=fD (w8.alloc (.cells #[.int .i64 0,.slice A8 O O] 198))
            have TN:fE aq7 W8 A8 (MH s.x):=by rw[aE];exact P9.below jm
            rw[<-kQ]at Z bd ⊢
            rw[<-aE]at Z bd bX cd ⊢
            clear aE kQ al P9 Y H
            have FP:=Z.new2 198 #[.int .i64 0,.slice A8 O O]
            have cn:=FP.b0.cell
            have ct:=FP.b0.frozen
            go_wp2_with fail
            go_meet
            have Xc:=Own.TP (L1:= []) FP 5 (.slice (some ⟨W8,0,none⟩) 1 1)
            simp only[ay,aA,aB,aZ]at Xc
            have bx:O=(MH s.plain.x).length:=bu.out
            refine⟨⟨A,c,some ⟨W8,0,none⟩,1⟩,?_,?_⟩
            ·
              rw[HM.out,aeu aa.out.symm,<-ar.out,<-HN.out]
              exact Xc.one
            ·
              rw[HM.out]
              refine ag4 (A2:=A8) (hv.below Xc.below) (by rw[<-HN.out];exact hc) a8 aa.out.symm (by rw[<-bx];exact Xc.b2) ?_
              have h9:b9<wc.heap.size:=bw.out.b0.lt
              exact(TN.below jm).ji (D:=λk=>k=b9) ⟨rfl,rfl,rfl,by simp[dD],λk _ J=>aN _ ⟨b9,5,none⟩ _ k J⟩ (λa e J=>by have:=bo.out a e;omega)
        case rest=>
          obtain⟨a,QL,bb⟩:=hcut
          clear Y a7 H
          have aD : Hid (R = match DY ag with
            | .error e=>(s.plain,e)
            | .ok b=>if wz s.plain.peer b≠0 then(s.plain,wz s.plain.peer b) else(nM (s.plain.setLast tn) (yh s.plain.peer b),0)):=ah (by
              rw[HR.out,ar.out,HM.out]
              refine aer ?_ (λhq=>ac ?_)
              ·
                rw[<-ai.out];simpa using e0
              ·
                exact⟨by rw[aa.out];exact hq.1,by rw[aq.out];exact hq.2⟩)
          have Q:=amj ag a wc ((hT.below K.out.below).below QL.below) bb (by rw[HM.out];exact a8) (by rw[HM.out,XK];split <;> simp)
          clear ac bb
          cases U:DY ag with
          |error er=>
            rw[U]at Q
            have M:R=(s.plain,er):=by rw[aD.out,U]
            have r0:(er != 0)=true:=by simpa using ag2 U
            unfold ajA at Q
            simp only at Q
            clear U
            go_wp2_with (first
              |((with_reducible refine gK QL ?_ _ rfl rfl _ underlying196 rfl (by kernel_rfl) ?_);(·first |rfl |(simp[aF,yielded];done)))
              |((with_reducible refine Q.mono ?_);rintro e bm⟨sQ,rfl⟩))
            go_ret
            rw[M]
            exact iK.same K.out (QL.grow sQ).below rfl
          |ok bs=>
            rw[U]at Q
            have bc:=adn U
            obtain⟨de,aL⟩:=fD (wz s.plain.peer bs)
            obtain⟨d,an⟩:=fD (yh s.plain.peer bs)
            have M:Hid (R=if de≠0 then(s.plain,de) else(nM (s.plain.setLast tn) d,0)):=ah (by rw[aD.out,U,aL,an])
            have cc:Hid (d.body.length<=2000):=ah (by rw[an];exact aaI bc)
            have V:=λ(A:Option Addr) (c:Nat) (W:World) (hB:aq2 W A c bs)=>ad2 s.plain.peer bs A bs.length c W rfl hB (by omega)
            unfold adX at V
            rw[<-aL,<-an]at V
            unfold ajA at Q
            simp only at Q
            clear U aL an aD
            go_upto_region 13 with (first
              |((with_reducible refine gK QL ?_ _ rfl rfl _ underlying196 rfl (by kernel_rfl) ?_);(·first |rfl |(simp[aF,yielded];done)))
              |((with_reducible refine Q.mono ?_);rintro e bm⟨sQ,cw,rfl,bj⟩))
            have bA:=bj
            obtain⟨Ab,cb,rfl,bS,hX⟩:=bA
            have av:=QL.grow sQ
            have bB:Own w0 bm [(g,87,s.cells tm now)]:=(K.out.grow av.below).own
            unfold jT at V
            obtain⟨nb,ba⟩:=fD bs.length
            obtain⟨nd,a1⟩:=fD d.body.length
            rw[<-ba]at V ⊢
            rw[<-a1]at V
            have bq:=ah a1
            clear hX ba bc bj Q a1
            go_upto_region 14 with (first
              |(with_reducible refine qO bB 15 (gB s.plain.peer) (pG tm now s) rfl _ _ rfl rfl _ bD rfl (iD _) ?_)
              |(go_at_call 114;(with_reducible refine(V _ _ _ bS).mono ?_);rintro e bn⟨ZP,aw,rfl,bE,IG⟩;have ak:=(av.grow IG).new1 136 #[.int .i64 d.kind,.int .i64 d.dir,.int .i64 d.fG,q32 d.a,q32 d.b,.slice ZP nd aw,q64 d.je]))
            by_cases ad:de=0
            ·
              have d0:(de != 0)=false:=by simpa using ad
              have Dp:Hid (R=(nM (s.plain.setLast tn) d,0)):=ah (by rw[M.out];exact if_neg (λq=>q ad))
              have au:=K.out.grow ak.below
              have bL:=au.own
              have Xt:=bE.below ((aH bn bn).alloc ig (.cells #[.int .i64 d.kind,.int .i64 d.dir,.int .i64 d.fG,q32 d.a,q32 d.b,.slice ZP nd aw,q64 d.je] 136))
              have hx:=K.out.beside ak.b1 (aG av.below.size IG.size)
              clear ad M V
              go_wp2_with (first
                |(with_reducible refine jq 36 (.int .i64 tn) bL rfl _ _ _ rfl rfl rfl (by kernel_rfl) (fA (by decide:36<54) (tK tm now s).symm) rfl ?_;intro wR kN rW bh;rw[agN]at kN;obtain⟨ch,vH⟩:=au.Ea kN rW bh ⟨rfl,rfl,rfl,rfl,rfl,rfl,rfl,rfl,rfl⟩;have cu:=(hx.turn vH).blk.cell;have bR:=Xt.apart au.blk (QK tm now s) rW bh)
                |(go_at_call 58;have bk:=QE ch d ZP nd aw bq.out bR cc.out (aG cg (by decide));unfold jT at bk;(with_reducible refine bk.mono ?_);rintro e wS⟨rfl,hP⟩))
              go_ret
              rw[Dp.out]
              exact⟨rfl,pY.trans ((iw.of_below ak.below).trans vH) hP⟩
            ·
              have d0:(de != 0)=true:=by simpa using ad
              have Dp:R=(s.plain,de):=by rw[M.out];exact if_pos ad
              clear ad M V
              go_wp2_with fail
              go_ret
              rw[Dp]
              exact iK.same K.out ak.below rfl
  ·
    have e0:(te != 0)=true:=by simpa using h0
    have M:R=(s.plain,te):=by rw[HR.out];exact(aaH (by rw[<-ai.out];exact h0)).trans (by rw[ai.out])
    clear h0
    go_wp2_with fail
    go_ret
    rw[M]
    exact iK.same K.out N rfl
end Go.Proofs.YthnmgjngniciaaaGreatDoor
