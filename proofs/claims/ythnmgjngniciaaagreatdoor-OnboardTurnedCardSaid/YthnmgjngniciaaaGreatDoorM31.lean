/- Parts. -/
import Derived.Test.YthnmgjngniciaaaGreatDoorM30
import Derived.Test.YthnmgjngniciaaaGreatDoorM03
import Derived.Test.YthnmgjngniciaaaGreatDoorM27
import Derived.Test.YthnmgjngniciaaaGreatDoorM20
import Derived.Test.YthnmgjngniciaaaGreatDoorM05
import Derived.Test.YthnmgjngniciaaaGreatDoorM06
import Derived.Test.YthnmgjngniciaaaGreatDoorM07
set_option linter.all false
set_option maxHeartbeats 16000000
set_option maxRecDepth 8000
open Array renaming getElem?_eq_none→dI
open Bool renaming false_eq_true→bU
open List renaming drop_of_length_le→dJ,getElem?_eq_some_iff→aX,length_append→bC,length_eq_zero_iff→dh,length_take→dX,map→bV,mem_of_getElem?→bP,mem_singleton→dN,setIfInBounds_toArray→ay,set_cons_succ→aB,set_cons_zero→aA,take_of_length_le→aY
open Nat renaming add_zero→bI,le_of_eq→bZ,le_refl→aW,le_trans→aG,lt_of_lt_of_eq→fA,reduceAdd→aT,zero_add→aJ,zero_le→aV
open Option.some renaming injEq→aO
namespace Go.Proofs.YthnmgjngniciaaaGreatDoor
open Go.RowKit Go.Shelf Tryz
open Act renaming put→aP
open Addr.mk renaming injEq→cZ
open Below renaming refl→aH
open Go.Lib renaming hid→ah
open Region renaming binds→aC,wanted→aF
open Result renaming andThen_ok→dO
open Tryz renaming prog→aj,underlying136→bF,underlying34→bD,underlying42→dA,underlying44→bg
open Value renaming oneCell'→aK
variable{s:Cs}{now:Int}{m:Ma}{Bq g:Nat}{t:Tp}{tm:jl}{W w w0:World}
theorem aix(M:Tab w0)(h:iJ w0 Bq g tm now s W)(id:Int)(v:List Int)(A:Option Addr)(n c:Nat)(V:fE aq7 W A v)(hn:n=v.length)(hc:n<=c)(Y:v.length<=100)(U:s.out.length<=90)(O: -1<=s.x.last):Calls aj 28 #[.pointer g,id,.slice A n c] W (iK w0 Bq g tm now s W (Lj now s.plain id v)):=by
 obtain⟨on,d⟩:=fD s.x.on;have J:(s.cells tm now)[37]? =some (.bool on):=by rw[d];rfl
 have j:=ah d;have N:=h.blk.cell 37;rw[J]at N;clear d;cases on with
 |false=>
  have hF:Lj now s.plain id v=(s.plain,6):=by unfold Lj;exact if_pos j.out.symm
  rw[hF];go_enter func28,ntmps28;go_wp2_with fail;go_ret;exact iK.same h gY rfl
 |true=>
  have hF:Lj now s.plain id v=nY now s.plain id v:=by unfold Lj;exact if_neg (λq=>by have:=j.out;rw[show s.plain.x.on=s.x.on from rfl,<-this]at q;cases q)
  rw[hF];have H:=UN M h id v A n c V hn hc Y U O;clear hn;go_enter func28,ntmps28;go_wp2_with((with_reducible refine H.mono ?_);rintro e Z⟨rfl,K⟩);go_ret;exact⟨rfl,K⟩
theorem aiy(h:iJ w0 Bq g tm now s W)(K:UInt8)(am:s.out.length<=90):Calls aj 33 #[.pointer g,q8 K] W (iK w0 Bq g tm now s W (QJ s.plain K)):=by
 obtain⟨er,ad⟩:=fD (IV s.plain.peer);obtain⟨P,V⟩:=fD (arV s.plain.peer);obtain⟨Q,hQ⟩:=fD (MQ s.plain.peer K);have hF:Hid (QJ s.plain K=if er≠0 then(s.plain,er) else(nM ((s.plain.ou P).su false) Q,0)):=ah (by rw[ad,V,hQ];rfl);have al:Hid (Q.body.length<=2000):=ah (by
  rw[hQ];unfold MQ;split;·(have:(jA s.plain.peer.key ⟨6,kR s.plain.peer,s.plain.peer.fG,0,s.plain.peer.b,[K],0⟩).body= [K]:=by unfold jA;split <;> rfl);rw[this];simp
  ·exact aV _)
 have O:=agJ s.plain.peer K W;unfold yj at O;rw[<-ad,<-V,<-hQ]at O;obtain⟨nq,ae⟩:=fD Q.body.length;rw[<-ae]at O;have ag:=ah ae;have H:=h.own;obtain⟨R,hR⟩:=fD (QJ s.plain K);rw[<-hR];rw[<-hR]at hF;clear ad V hQ ae hR;go_enter func33,ntmps33;go_upto_region 2 with(first|(with_reducible refine qO H 15 (gB s.plain.peer) (pG _ _ _) ?_ _ _ rfl rfl _ bD rfl (iD _) ?_;(·first|(simp[aF];done)))|((with_reducible refine O.mono ?_);rintro e w1⟨A1,c1,rfl,af,ac⟩;have J:=Own.iY w1 34 136 gd gi)|(with_reducible refine oG (gB P) J rfl _ _ rfl rfl rfl (iD P) (by kernel_rfl) (kK P) ?_;intro wR d UO M;replace J:=d;clear d)|(with_reducible refine kY (jT Q A1 nq c1) J rfl _ _ rfl rfl rfl (kS Q A1 nq c1) (by kernel_rfl) (qM Q A1 nq c1) ?_;intro wR d UO M;replace J:=d;clear d))
 have hW:W wR:=ac.trans (J.below.mono ac.size);by_cases N:er=0
 ·have e0:(er != 0)=false:=by simpa using N
  have Dp:Hid (R=(nM ((s.plain.ou P).su false) Q,0)):=ah (by rw[hF.out];exact if_neg (λq=>q N));have j:=h.grow hW;have an:=h.beside J.b0 ac.size;have aa:=h.beside J.b1 (Nat.le_succ_of_le ac.size);have U:=af.below J.below;have Z:iw g s s W wR:=iw.of_below hW;clear H;have H:=j.own;have ak:=an.blk;clear N hF O af J;go_wp2_with(first|(with_reducible refine gy rfl 34 _ rfl w1 rfl 34 _ _ ak bD rfl (iD _) ?_)|(with_reducible refine gy rfl 136 _ rfl (w1.heap.size+1) rfl 136 _ _ ai bF rfl (kS _ _ _ _) ?_)|(with_reducible refine ni 15 (gB (P)) H rfl _ _ _ rfl rfl rfl (iD _) (Cb _ _ _ _) (kK _) ?_;intro wR d rW M;rw[Jg]at d;obtain⟨Y,vH⟩:=j.Ea d rW M ⟨rfl,rfl,rfl,rfl,rfl,rfl,rfl,rfl,rfl⟩;replace aa:=aa.turn vH;replace U:=U.apart j.blk (QK _ _ _) rW M;replace Z:=iw.trans Z vH;clear H;replace j:=Y;clear Y;have H:=j.own)|(with_reducible refine jq 37 false H rfl _ _ _ rfl rfl rfl (by kernel_rfl) (fA (by decide:37<54) (tK _ _ _).symm) rfl ?_;intro wR d rW M;rw[UC]at d;obtain⟨Y,vH⟩:=j.Ea d rW M ⟨rfl,rfl,rfl,rfl,rfl,rfl,rfl,rfl,rfl⟩;replace aa:=aa.turn vH;have ai:=aa.blk;replace U:=U.apart j.blk (QK _ _ _) rW M;replace Z:=iw.trans Z vH;clear H;replace j:=Y;clear Y;have H:=j.own)|((with_reducible refine(QE j Q A1 nq c1 ag.out U al.out (aG am (by decide))).mono ?_);rintro e fU⟨rfl,V⟩));go_ret;rw[Dp.out];exact⟨rfl,pY.trans Z V⟩
 ·have e0:(er != 0)=true:=by simpa using N
  have Dp:R=(s.plain,er):=by rw[hF.out];exact if_pos N
  clear N hF O;go_wp2_with fail;go_ret;rw[Dp];exact iK.same h hW rfl
section
section
variable {P:Program} {ops:Array Oper} {w0:World} {Q:Exit->Act->World->Prop}
theorem gX.part{o:Oper}{rest:List Oper}{a a':Act}{g:Nat}{t:TypeId}{cs:Array Value}(H: ∀w,w0 w->fK w g t cs)(i:Nat)(vs:Array Value)(U:(cs.toList.drop i).take vs.size=vs.toList)(V:aF o (yielded ops a.tmps)=true)(ty:TypeId)(x:Operand)(N:o.op=.load ty x)(Y:a.eval x=.pointer (some ⟨g,i,none⟩))(d:TypeDesc)(O:P.underlying ty=some d)(K:(match d with | .struct _ | .array _ _=>true |_=>false)=true)(hi:(P.info? ty).map (·.size)=some vs.size)(J:a.put o.dst vs=a')(r:gX P ops w0 Q rest a'):gX P ops w0 Q (o::rest) a:=by refine gX.want V (λw M Z Q' j=>?_) J r;unfold Oper.wp execOp;simp only[N,Y,Instr.loadAt,Instr.sureAddr,Sem.run_bind,Sem.run_pure,dO,wB w g i t ty cs vs d (H w M) U O K hi];exact j _ gY
theorem gX.whole{o:Oper}{rest:List Oper}{a a':Act}{g:Nat}{t:TypeId}{cs:Array Value}(j: ∀w,w0 w->fK w g t cs)(N:aF o (yielded ops a.tmps)=true)(ty:TypeId)(x:Operand)(K:o.op=.load ty x)(O:a.eval x=.pointer g)(d:TypeDesc)(M:P.underlying ty=some d)(J:(match d with | .struct _ | .array _ _=>true |_=>false)=true)(hi:(P.info? ty).map (·.size)=some cs.size)(H:a.put o.dst cs=a')(r:gX P ops w0 Q rest a'):gX P ops w0 Q (o::rest) a:=gX.part j 0 cs (by rw[List.drop_zero];exact aY (by simp)) N ty x K O d M J hi H r
end
end
def Bz (m:kZ):kZ:={m with v:=⟨none,0,0,none,0,0⟩}
theorem asf(x:Tr)(m:kZ):((arh (jf x m) 40 [zI,false,nS,nS,zI]).setIfInBounds 45 zI).setIfInBounds 46 false=jf (pJ x) (Bz m):=by kernel_rfl
theorem akJ(x:Tr)(m:kZ):40+(gj:Array Value).size<=(jf x m).size:=by rw[lg];exact(by decide:40+5<=48)
theorem ag6(x:Tr)(m:kZ)(l:List Value):45<(arh (jf x m) 40 l).size:=by rw[lQ,lg];decide
theorem ag7(x:Tr)(m:kZ)(l:List Value)(v:Value):46<((arh (jf x m) 40 l).setIfInBounds 45 v).size:=by rw[Array.size_setIfInBounds,lQ,lg];decide
theorem akK:(gj:Array Value).all (·.oneCell')=true:=by simp[aK]
theorem Hl(x:Tr)(m:kZ)(w:World):Calls aj 70 #[.agg (jf x m)] w λe w'=>e=.returned (.agg (jf (pJ x) (Bz m)))/\w w':=by have j:Own w _ [_,_]:=Own.iY w 44 44 (jf x m) fY;go_enter func70,ntmps70;go_wp2_with(first|(with_reducible refine ni 40 gj j rfl _ _ _ rfl rfl rfl (by kernel_rfl) (akJ _ _) akK ?_;intro M d J H;replace j:=d;clear d J H)|(with_reducible refine jq 45 (.int .i64 0) j rfl _ _ _ rfl rfl rfl (by kernel_rfl) (ag6 _ _ _) rfl ?_;intro N d J H;replace j:=d;clear d J H)|(with_reducible refine jq 46 (.bool false) j rfl _ _ _ rfl rfl rfl (by kernel_rfl) (ag7 _ _ _ _) rfl ?_;intro O d J H;rw[asf]at d;replace j:=d;clear d J H)|((with_reducible refine gK j ?_ _ rfl rfl _ bg rfl (iF _ _) ?_);(·first|rfl))|(with_reducible refine kY (jf (pJ x) (Bz m)) j rfl _ _ rfl rfl rfl (iF _ _) (by kernel_rfl) (lM _ _) ?_;intro U d K H;replace j:=d;clear d));exact bodyPost_ret (nC results70 _ _ _ _ _ rfl j.b1 bg rfl (iF _ _)) rfl ⟨rfl,j.below⟩
theorem iJ.drop{W':World}(h:iJ w0 Bq g tm now s W)(d:Own w0 W' [(g,87,(s.rQ (pJ s.x) (Bz s.m)).cells tm now)])(J:W'.heap.size=W.heap.size)(H: ∀k,k≠g->W'.heap[k]? =W.heap[k]?):iJ w0 Bq g tm now (s.rQ (pJ s.x) (Bz s.m)) W'/\iw g s (s.rQ (pJ s.x) (Bz s.m)) W W':=by have K:iw g s (s.rQ (pJ s.x) (Bz s.m)) W W':=iw.put (d.below.os.trans h.below.os.symm) (d.below.tape.trans h.below.tape.symm) (d.below.output.trans h.below.output.symm) J H rfl rfl;have j:=h.tr;exact⟨h.put d K J H ⟨aq1.nil _ _,aq1.nil _ _,j.stops,rfl,rfl,j.e3,aV _,aV _,j.l3⟩ rfl rfl rfl (λe=>by cases e) (λe=>by cases e) (ard j.stops h.blk (by decide)),K⟩
theorem Y3(h: ¬(s.x.held=true/\jB s.x.ma.fP (wrap64 (now-s.x.at_)) 0=0)):OA now s.plain=s.plain:=if_neg h
theorem aew(h:s.x.held=true/\jB s.x.ma.fP (wrap64 (now-s.x.at_)) 0=0):OA now s.plain=s.plain.rQ (pJ s.x):=if_pos h
theorem akL(h:iJ w0 Bq g tm now s W)(y0 y1:Int)(A:Option Addr)(n c:Nat):Calls aj 34 #[.pointer (some ⟨g,0,none⟩),.agg #[.int .i64 y0,.int .i64 y1,.slice A n c]] W (iK w0 Bq g tm now s W (OA now s.plain,0)):=by
 obtain⟨held,aa⟩:=fD s.x.held;have ai:(s.cells tm now)[50]? =some (.bool held):=by rw[aa];rfl
 have aq:(s.cells tm now)[52]? =some (.int .i64 now):=rfl;have ap:(s.cells tm now)[49]? =some (.int .i64 s.x.at_):=rfl;obtain⟨rc,ae⟩:=fD (jB s.x.ma.fP (wrap64 (now-s.x.at_)) 0);have af:=ah aa;have ag:=ah ae;have hO:Own W _ [_]:=Own.jD W 48 #[.int .i64 y0,.int .i64 y1,.slice A n c];obtain⟨U,H⟩:=fD (W.alloc (.cells #[.int .i64 y0,.int .i64 y1,.slice A n c] 48));have V:iJ w0 Bq g tm now s U:=by rw[H];exact h.grow hO.below
 have Y:W U:=by rw[H];exact hO.below
 have am:=λX (hX:U X)=>I5 s.x.ma s.m.v (wrap64 (now-s.x.at_)) X (V.tr.is.ma.below hX);rw[<-ae]at am;have Z:=V.blk;have al:=Z.lt;have H1:=ah V;clear aa ae hO V;cases held with
 |false=>
  go_enter func34,ntmps34;go_upto_region 1 with fail;rw[<-H];clear H;apply jJ [];case lX=>intro u;simp only[bV,aq9,aP,ay,aA,aB,aT,aJ];rfl
  case hm=>kernel_rfl
  case hB=>kernel_rfl
  case hap=>kernel_rfl
  repeat(first|(apply jI.is;·(intro u w' d j;simp[fH,aC,Is]at j;refine fC ?_ ?_;(·(first|rfl));intro an hK;have d:=d.below ig (by intro k o h;simp at h);have M:=(Z.below d al);have ad:=M.cell 50;rw[ai]at ad;go_wp2_with(fail);(try simp only[j]at hK);refine hK _ _ ?_ rfl;first|exact Stp.refl _ _))|(refine jI.is (c:=undef) ?_ ?_;·(intro u w' d j;simp[fH,aC,Is]at j;refine PL ?_ rfl;first|(simp[aF,yielded,j];done))))
  refine jI.nil ?_ ?_;·simp[W2.fit,qy]
  intro u w7 d j;simp only[gQ]at j;replace d:=d.below ig (by intro k o h;simp at h);have ac:=j 23 _ rfl;simp only[Is]at ac;clear j;simp only[ac];clear ac;go_wp2_with fail;go_ret;rw[Y3 (λq=>Bool.false_ne_true (af.out.trans q.1))];exact iK.same h (Y.trans (d.mono Y.size)) rfl
 |true=>
  go_enter func34,ntmps34;go_upto_region 1 with fail;rw[<-H];clear H;refine ara (by kernel_rfl) ?_;repeat(first|(refine gX.part (a':=?_) (λ_ d=>(H1.out.grow d).blk) 44 (nO s.x.ma s.m.v) (zl _ _ _) rfl _ _ rfl rfl _ dA rfl (by kernel_rfl) ?_ ?_;rotate_left 1;·(simp only[aP,ay,aA,aB];rfl))|(apply gX.want rfl;(·intro w' d an Q' hK;have M:=(Z.below d al);have ad:=M.cell 50;rw[ai]at ad;have av:=M.cell 52;rw[aq]at av;have au:=M.cell 49;rw[ap]at au;go_wp2_with(((with_reducible refine(am _ d).mono ?_);rintro e w3⟨rfl,ar⟩));first|exact aH _ _|exact ar);(·simp only[aP,ay,aA,aB];rfl)))
  refine gX.nil ?_;intro w7 d;have O:W w7:=Y.trans (d.mono Y.size);have N:=h.grow O;have K:=N.own;by_cases J:rc=0;·(have e0:(rc==0)=true:=by simpa using J);have hT:Hid (OA now s.plain=s.plain.rQ (pJ s.x)):=ah (aew ⟨af.out.symm,by rw[<-ag.out];exact J⟩);clear J Z;go_wp2_with(first|(with_reducible refine qO K 4 (jf s.x s.m) (oU _ _ _) ?_ _ _ rfl rfl _ bg rfl (iF _ _) ?_;(·first|(simp[aF,yielded];done)))|((with_reducible refine(Hl s.x s.m _).mono ?_);rintro e w8⟨rfl,ak⟩;replace N:=N.grow ak;clear K;have K:=N.own)|(with_reducible refine ni 4 (jf (pJ s.x) (Bz s.m)) K rfl _ _ _ rfl rfl rfl (iF _ _) (QD _ _ _ _ _) (lM _ _) ?_;intro wR kN rW aw;rw[ad9]at kN;obtain⟨ax,vH⟩:=N.drop kN rW aw));go_ret;rw[hT.out];exact⟨rfl,_,ax,(iw.of_below (O.trans (ak.mono O.size))).trans vH,rfl⟩
  ·(have e0:(rc==0)=false:=by simpa using J);have hT:Hid (OA now s.plain=s.plain):=ah (Y3 (λq=>J (by rw[ag.out];exact q.2)));clear J K;go_wp2_with fail;go_ret;rw[hT.out];exact iK.same h O rfl
section
open Go.RowKit Go.Shelf Go.Sort
theorem aey{α:Type}{d:List α}{p:Nat}{o v:α}(h:d.reverse=o::(d.take p).reverse)(H:p<d.length):(d.set p v).reverse=v::(d.take p).reverse:=by
 have e:d=d.take p++ [o]:=by have:=congrArg List.reverse h;simpa using this
 have j:(d.take p).length=p:=by rw[dX];omega
 generalize d.take p=J at*;subst e;subst j;simp
theorem Ll{cur:Array Value}{i:Nat}{v:Value}(h:cur[i]? =some v):cur.setIfInBounds i v=cur:=by
 apply Array.ext_getElem?;intro j;rw[Array.getElem?_setIfInBounds];split
 ·rename_i e;subst e;split;·rw[h]
  ·rename_i d;rw[dI (by omega)]
 ·rfl
def akM (o y:Sp) (zs ys:List Sp) (p j:Nat) (xs:List Sp):Prop:=(if o.edge=y.edge/\y.lo<=o.hi then oI (⟨o.edge,o.lo,max o.hi y.hi⟩::(zs.take p).reverse) (ys.drop (j+1)) else oI (y::o::(zs.take p).reverse) (ys.drop (j+1))).reverse=qY xs/\zs.reverse=o::(zs.take p).reverse/\zs[p]? =some o
theorem aez(A:Option Addr)(n c:Nat)(xs:List Sp)(w:World)(hr:fE iO w A xs)(hn:xs.length=n)(hl:n<=1000):Calls aj 53 #[.slice A n c] w λe w'=> ∃A' c',e=.returned (.slice A' (qY xs).length c')/\aq1 iO 130 w' w A' c' (qY xs)/\w w':=by
 have a5:=aiV A n c xs w hr hn (by omega);have bm:(xs.filter lG).length<=1000:=aG (List.length_filter_le _ _) (by omega);have HN:=ah hn;clear hr hn;go_enter func53,ntmps53;go_wp2_with(first|((with_reducible refine a5.mono ?_);rintro e fU⟨fJ,iG,rfl,az,av⟩)|((with_reducible refine(agu _ _ _ _ _ _ az HN.out hl).mono ?_);rintro e w2⟨rfl,ai,a7⟩;have ag:=aro av az av.size a7)|((with_reducible refine(adt _ _ _ _ _ _ ai rfl bm).mono ?_);rintro e w3⟨rfl,ys,aD,bf,bc,a8⟩;have a4:=aro ag ai ag.size a8));have hR:(oI [] ys).reverse=qY xs:=abZ aD bf;have bb:ys.length=(xs.filter lG).length:=aD.length_eq;generalize (xs.filter lG).length=m at*;have HR:=ah (And.intro hR bb);have bu:=bc.rows;have aR:=a4.size;clear hR bb a5 az ai bc a7 a8 av ag aD bf HN;go_loopw [4,15] (λs4 aM wr=> ∃(A1:Option Addr) (c1 k V:Nat) (O:List Sp),s4=.slice A1 k c1/\aM=.int .i64 V/\V<=m/\k<=V/\Hid ((oI O.reverse (ys.drop V)).reverse=qY xs)/\Hid (O.length=k)/\aq1 iO 130 wr w3 A1 c1 O/\w3 wr) (λ_ aM _=>m-(intOf aM).toNat);case atStart=>exact⟨none,0,0,0,[],rfl,rfl,by omega,by omega,ah (by simpa using HR.out.1),ah rfl,aq1.nil _ _,aH _ _⟩
 case round=>
  obtain⟨A1,c1,k,V,O,rfl,rfl,bB,bE,hJ,J,M,d⟩:=hrel;have bi:=bu.below d;by_cases bn:V<m
  ·obtain⟨y,hy⟩:=aq5 HR.out.2 bn;obtain⟨b0,bw,rfl,bx,hc⟩:=bi.get hy;have Cm:=hc 0 y.edge rfl;have CB:=hc 1 y.lo rfl;have RZ:=hc 2 y.hi rfl;simp only[iO,bI]at Cm CB RZ;(have a6:ys.drop V=y::ys.drop (V+1):=by obtain⟨U,h2⟩:=aX.1 hy;rw[List.drop_eq_getElem_cons U,h2]);have HD:=ah a6;have K:Own wr _ [_]:=(Own.nil wr).alloc 130 #[y.edge,y.lo,y.hi] _ rfl;clear hc hy bi a6;obtain⟨y1,Z,N⟩:=y;simp only at Cm CB RZ K;rcases Nat.eq_zero_or_pos k with ax |ax;·subst ax;have hz:O= []:=dh.1 J.out;subst hz;go_wp2_with fail;replace M:=M.below K.below;replace d:=d.trans (K.below.mono d.size);generalize aw:(wr.alloc (.cells #[y1,Z,N] 130))=W0 at*;clear aw Cm CB RZ;refine ara (by kernel_rfl) ?_;(repeat(first|(apply gX.want rfl;(·intro w' H ak Q' J;have ad:=K.grow H;have ae:=ad.b0.cell;go_wp2_with(fail);first|exact aH _ _);(·simp only[aP,ay,aA,aB];rfl))|(apply gX.skip rfl;·simp only[aP,ay,aA,aB];rfl)));refine gX.nil ?_;intro w' H;replace M:=M.below H;replace d:=d.trans (H.mono d.size);replace K:=K.grow H;have ae:=K.b0.cell;clear H;go_wp2_with(at_builtin;refine gW ND rfl _ _ rfl w3 A1 c1 [] 0 rfl rfl (M.below jm) w' 1 [⟨y1,Z,N⟩] 1 rfl rfl (xO (fK.new _ _ _)) (by omega) (by decide) ((d.alloc (d.size) _).size) ?_;intro A2 c2 w5 uq am _);go_roundw;(case rel=>refine⟨A2,c2,1,V+1,[⟨y1,Z,N⟩],rfl,by go_num,by omega,by omega,ah ?_,ah rfl,uq,aro (d.alloc d.size _) (M.below jm) ((d.alloc d.size _).size) am⟩;have:=hJ.out;rw[HD.out]at this;exact this);case measure=>simp[intOf];omega
   ·obtain⟨p,bk⟩: ∃p,k=p+1:=⟨k-1,by omega⟩;(have aE:p<k:=by omega);(have bd:((k:Int)-1)=(p:Int):=by omega);obtain⟨o,ar⟩:=aq5 J.out aE;(have aL:O.reverse=o::(O.take p).reverse:=by(have U:O=O.take p++ [o]:=by rw[<-take_snoc' ar,aY (by rw[J.out];omega)]);rw[List.reverse_eq_iff,List.reverse_cons,List.reverse_reverse];exact U);have ap:=hJ.out;rw[aL,HD.out,oI]at ap;obtain⟨g,cur,e,a9,ac,bh,h4,h5,h6⟩:=M.blk (M.some_ (by rw[J.out];omega));subst e;have aq:=λW (hW:wr W)=>((M.below hW).rows.get ar);clear bk ax;obtain⟨o1,o2,Y⟩:=o;simp only at ap;have HZ:akM ⟨o1,o2,Y⟩ ⟨y1,Z,N⟩ O ys p V xs:=⟨ap,aL,ar⟩;rw[J.out]at h4;clear aL ap ar h6;go_wp2_with fail;replace aq:=λW (hW:Below (wr.alloc (.cells #[y1,Z,N] 130)).heap.size (wr.alloc (.cells #[y1,Z,N] 130)) W)=>aq W (gZ K.below hW);replace M:=M.below K.below;replace ac:=ac.below K.below ac.lt;replace d:=d.trans (K.below.mono d.size);generalize aw:(wr.alloc (.cells #[y1,Z,N] 130))=W0 at*;(have hq: ∀W,W0 W->W.cell? ⟨g,p*3,none⟩=some o1/\W.cell? ⟨g,p*3+1,none⟩=some o2/\W.cell? ⟨g,p*3+2,none⟩=some Y:=by intro W hW;obtain⟨b,off,e,_,hc⟩:=aq W hW;simp only[aO,cZ]at e;obtain⟨rfl,rfl,-⟩:=e;have a0:=hc 0 o1 rfl;have a1:=hc 1 o2 rfl;have a2:=hc 2 Y rfl;simp only[iO,aJ,bI]at a0 a1 a2;exact⟨a0,a1,a2⟩);clear aw aq Cm CB RZ;by_cases ba:o1=y1
    ·subst ba;by_cases an:Z<=Y
     ·(have f2:decide (Z<=Y)=true:=by simpa using an);apply iM;(case lX=>intro u;simp only[bV,aq9,aP,ay,aA,aB,aT,aJ];with_reducible rfl);(case hm=>kernel_rfl);(case hB=>kernel_rfl);(case hap=>kernel_rfl);(repeat(first|(apply Lex.is;·(intro u w' H j;simp[fH,aC,Is]at j;refine fF ?_ ?_;(·(first|rfl|(simp[aF,yielded,j];done)));intro ak J;have ad:=K.grow H;have ae:=ad.b0.cell;go_wp2_with(fail);(try simp only[j]at J);refine J _ _ ?_ rfl;first|exact aH _ _))));apply Lex.nil;intro u w' H j;simp only[gQ]at j;have aa:=j 21 _ rfl;simp only[Is]at aa;clear j;simp only[aa];replace M:=M.below H;replace d:=d.trans (H.mono d.size);replace K:=K.grow H;have ae:=K.b0.cell;replace hq:=λW (hW:w' W)=>hq W (gZ H hW);replace ac:=ac.below H ac.lt;clear H aa ae;go_wp2_with fail;apply gu (Below w') (λW=>aq3 gY 1) (λ_ _ _ U h2=>U.trans h2) (vN w' 999) (λ_ _ _ h=>h.1) (λ_ _=>iR _ _ _ _) (λ_ _=>True) (λ_=>trivial) (λ_ _ _ _ _ _ _=>trivial);(case lX=>intro u;simp only[bV,aq9,aP,ay,aA,aB,aT,aJ];with_reducible rfl);(case hm=>kernel_rfl);(case hB=>kernel_rfl);(case hA=>kernel_rfl);case hap=>kernel_rfl
      repeat(first
         |(apply fM.is
           ·
             (intro u w' H bL j
              simp[fO,aC,gI,Is]at j
              refine fC ?_ ?_
              ·
                first
                |rfl
              intro ak J
              have ad:=K.grow H;have ae:=ad.b0.cell;have m2:=(hq _ H).2.2
              go_wp2_with (fail)
              try simp only[j]at J
              refine J _ _ ?_ rfl
              first |exact iR _ _ _ _)))
      refine fM.last (qh ?_) ?_;(·simp only[gQ];(repeat(refine⟨?_,?_⟩;·first|exact mM _));exact trivial);intro u w2 af _ j;simp only[gQ]at j;refine⟨rfl,?_⟩;intro ak J;have au:=j 11 _ rfl;have h9:=j 9 _ rfl;simp only[gI,Is]at au h9;clear j;have al:=ac.below af ac.lt;have bA:=al.frozen (p*3+2);simp only[au,h9];clear au h9;go_wp2_with fail;go_roundw;(case rel=>have hs:=jX g [(max Y N:Int)] (p*3+2) w2;have bj:w2.grownBy (w2.setCells g (p*3+2) [(max Y N:Int)]) (some g):=⟨hs.2.2.1,hs.2.2.2.1,hs.2.2.2.2,bZ hs.1.symm,λi _ bo=>hs.2.1 i (λe=>bo (by rw[e]))⟩;have ai:=M.below af;have ag:w3 w2:=d.trans (af.mono d.size);have a0:=(al.cell (p*3)).symm.trans (hq _ af).1;have a1:=(al.cell (p*3+1)).symm.trans (hq _ af).2.1;(have bq:fK (w2.setCells g (p*3+2) [(max Y N:Int)]) g 130 (arh cur (p*iO.k) (iO.enc ⟨o1,o2,max Y N⟩)):=by(have e:arh cur (p*iO.k) (iO.enc ⟨o1,o2,max Y N⟩)=cur.setIfInBounds (p*3+2) (max Y N:Int):=by show((cur.setIfInBounds (p*3) o1).setIfInBounds (p*3+1) o2).setIfInBounds (p*3+2) (max Y N:Int)=_;rw[Ll a0,Ll a1]);rw[e];exact al.iV _ _);refine⟨g,c1,k,V+1,O.set p ⟨o1,o2,max Y N⟩,rfl,by go_num,by omega,by omega,ah ?_,ah (by rw[List.length_set,J.out]),aq1.put ai (by rw[J.out];omega) _ al bq,aro ag ai ag.size bj⟩;have U:=HZ.1;rw[if_pos ⟨rfl,an⟩]at U;rw[aey HZ.2.1 (by rw[J.out];omega)];exact U);case measure=>simp[intOf];omega
     ·(have f2:decide (Z<=Y)=false:=by simpa using an);clear an;apply iM;(case lX=>intro u;simp only[bV,aq9,aP,ay,aA,aB,aT,aJ];with_reducible rfl);(case hm=>kernel_rfl);(case hB=>kernel_rfl);(case hap=>kernel_rfl);(repeat(first|(apply Lex.is;·(intro u w' H j;simp[fH,aC,Is]at j;refine fF ?_ ?_;(·(first|rfl|(simp[aF,yielded,j];done)));intro ak J;have ad:=K.grow H;have ae:=ad.b0.cell;go_wp2_with(fail);(try simp only[j]at J);refine J _ _ ?_ rfl;first|exact aH _ _))));apply Lex.nil;intro u w' H j;simp only[gQ]at j;have aa:=j 21 _ rfl;simp only[Is]at aa;clear j;simp only[aa];replace M:=M.below H;replace d:=d.trans (H.mono d.size);replace K:=K.grow H;have ae:=K.b0.cell;clear H aa;clear hq bh bd a9 h4 h5 aE ac;go_wp2_with(at_builtin;refine gW ND rfl _ _ rfl w3 g c1 O k rfl J.out (M.below jm) w' 1 [⟨o1,Z,N⟩] 1 rfl rfl (xO (fK.new _ _ _)) (by omega) (by decide) ((d.alloc (d.size) _).size) ?_;intro A2 c2 w5 uq am _);go_roundw;(case rel=>refine⟨A2,c2,k+1,V+1,O++ [⟨o1,Z,N⟩],by go_num,by go_num,by omega,by omega,ah ?_,ah (by rw[bC,J.out];rfl),uq,aro (d.alloc d.size _) (M.below jm) ((d.alloc d.size _).size) am⟩;have U:=HZ.1;have an:=of_decide_eq_false f2;rw[if_neg (by simp only;omega)]at U;rw[List.reverse_append,HZ.2.1];exact U);case measure=>simp[intOf];omega
    ·(have f1:(o1==y1)=false:=by simpa using ba);apply iM;(case lX=>intro u;simp only[bV,aq9,aP,ay,aA,aB,aT,aJ];with_reducible rfl);(case hm=>kernel_rfl);(case hB=>kernel_rfl);(case hap=>kernel_rfl);(repeat(first|(apply Lex.is;·(intro u w' H j;simp[fH,aC,Is]at j;refine fF ?_ ?_;(·(first|rfl|(simp[aF,yielded,j];done)));intro ak J;have ad:=K.grow H;have ae:=ad.b0.cell;go_wp2_with(fail);(try simp only[j]at J);refine J _ _ ?_ rfl;first|exact aH _ _))|(refine Lex.is (c:=undef) ?_ ?_;·(intro u w' H j;simp[fH,aC,Is]at j;exact wG (by simp[aF,yielded,j]) rfl))));apply Lex.nil;intro u w' H j;simp only[gQ]at j;have aa:=j 21 _ rfl;simp only[Is]at aa;clear j;simp only[aa];replace M:=M.below H;replace d:=d.trans (H.mono d.size);replace K:=K.grow H;have ae:=K.b0.cell;clear H aa;clear hq bh bd a9 h4 h5 aE ac;go_wp2_with(at_builtin;refine gW ND rfl _ _ rfl w3 g c1 O k rfl J.out (M.below jm) w' 1 [⟨y1,Z,N⟩] 1 rfl rfl (xO (fK.new _ _ _)) (by omega) (by decide) ((d.alloc (d.size) _).size) ?_;intro A2 c2 w5 uq am _);go_roundw;(case rel=>refine⟨A2,c2,k+1,V+1,O++ [⟨y1,Z,N⟩],by go_num,by go_num,by omega,by omega,ah ?_,ah (by rw[bC,J.out];rfl),uq,aro (d.alloc d.size _) (M.below jm) ((d.alloc d.size _).size) am⟩;have U:=HZ.1;rw[if_neg (by simp only;omega)]at U;rw[List.reverse_append,HZ.2.1];exact U);case measure=>simp[intOf];omega
  ·(obtain rfl:V=m:=by omega);(have hz:O=qY xs:=by have:=hJ.out;rw[dJ (by rw[HR.out.2];exact aW _),oI.eq_def]at this;simpa using this);have af:=J.out;clear hJ;go_wp2_with fail;go_ret;subst hz;exact⟨A1,c1,by rw[af];rfl,M.base aR,a4.trans (d.mono aR)⟩
end
section
open Go.RowKit Go.Shelf Go.Sort
theorem FT{P:Sp->Prop}(j: ∀o s,P o->P s->P ⟨o.edge,o.lo,max o.hi s.hi⟩): ∀(l out:List Sp),(∀s∈out,P s)->(∀s∈l,P s)-> ∀s∈oI out l,P s
 | [],out,ho,_=>by assumption
 |s::l,[],_,hl=>by rw[oI];exact FT j l [s] (by grind) (λx d=>hl x (List.mem_cons_of_mem _ d))
 |s::l,o::out,ho,hl=>by
  rw[oI];have H:=ho o (by simp);have J:=hl s (by simp);split;·refine FT j l _ ?_ (λx d=>hl x (List.mem_cons_of_mem _ d));grind
  ·refine FT j l _ ?_ (λx d=>hl x (List.mem_cons_of_mem _ d));grind
theorem FU: ∀(l out:List Sp),(oI out l).length<=out.length+l.length
 | [],out=>by constructor<;>grind
 |s::l,[]=>by rw[oI];have:=FU l [s];grind
 |s::l,o::out=>by
  rw[oI];split;·have:=FU l (⟨o.edge,o.lo,max o.hi s.hi⟩::out);grind
  ·have:=FU l (s::o::out);grind
theorem XL(l:List Sp): ∀s∈qY l,0<=s.lo/\s.lo<=s.hi/\s.hi<=1000000:=by
 intro s d;unfold qY at d;rw[List.mem_reverse]at d;refine FT (P:=λs=>0<=s.lo/\s.lo<=s.hi/\s.hi<=1000000) ?_ _ [] (by simp) ?_ s d;·grind
 ·intro x j;have j:=(wJ _).mem_iff.1 j;have:=(List.mem_filter.1 j).2;simp[lG]at this;omega
theorem aeA(l:List Sp):(qY l).length<=l.length:=by unfold qY;rw[List.length_reverse];refine aG (FU _ []) ?_;rw[(wJ _).length_eq];grind
theorem XM{l:List Sp}{d:Nat}{s:Sp}(h:l[d]? =some s):zB (l.take (d+1))=zB (l.take d)+(s.hi-s.lo):=by rw[take_snoc' h];simp[zB]
theorem UQ: ∀l:List Sp,(∀s∈l,0<=s.lo/\s.lo<=s.hi/\s.hi<=1000000)->0<=zB l/\zB l<=1000000*l.length
 | [],_=>by decide
 |s::l,h=>by have H:=h s (by simp);have d:=UQ l (λx j=>h x (List.mem_cons_of_mem _ j));simp[zB]at d ⊢;omega
theorem ag8(A:Option Addr)(n c:Nat)(xs:List Sp)(w:World)(hr:fE iO w A xs)(hn:xs.length=n)(hl:n<=1000):Calls aj 21 #[.slice A n c] w λe w'=>e=.returned (Ju xs:Int)/\w w':=by
 have Z:=aez A n c xs w hr hn hl;have hT:Ju xs=zB (qY xs):=rfl;have ad:=XL xs;have Y:=aeA xs;rw[hn]at Y;generalize Ju xs=aq at*;generalize qY xs=j at*;obtain⟨m,hm⟩:=fD j.length;rw[<-hm]at Z Y;have N:=ah hm.symm;have HT:=ah hT;have O:=ah ad;go_enter func21,ntmps21;go_wp2_with(first|((with_reducible refine Z.mono ?_);rintro e w1⟨A0,c0,rfl,ac,V⟩));have ai:=ac.rows;go_loopw [3,9] (λs i wr=> ∃d:Nat,i=.int .i64 d/\d<=m/\s=.int .i64 (zB (j.take d))/\w1 wr) (λ_ i _=>m-(intOf i).toNat);case atStart=>exact⟨0,rfl,by omega,rfl,aH _ _⟩
 case round=>
  obtain⟨d,rfl,hj,rfl,H⟩:=hrel;have ag:=ai.below H;by_cases aa:d<m;·obtain⟨y,J⟩:=aq5 N.out aa;obtain⟨b0,ak,rfl,al,hc⟩:=ag.get J;have M:=hc 0 y.edge rfl;have K:=hc 1 y.lo rfl;have U:=hc 2 y.hi rfl;simp only[iO,bI]at M K U;have jc:Own wr _ [_]:=(Own.nil wr).alloc 130 #[y.edge,y.lo,y.hi] _ rfl;have af:=O.out y (bP J);have ae:=ah (XM J);have am:=UQ (j.take d) (λs hs=>O.out s (List.mem_of_mem_take hs));(have an:(j.take d).length<=1000:=by rw[dX];omega);(have ap:0<=zB (j.take d)/\zB (j.take d)<=1000000000:=by omega);obtain⟨y1,y2,y3⟩:=y;simp only at M K U jc af;generalize zB (j.take d)=sm at*;go_wp2_with fail;go_roundw;(case rel=>refine⟨d+1,by go_num,by omega,?_,H.trans (jc.below.mono H.size)⟩;rw[ae.out]);case measure=>simp[intOf];omega
  ·(obtain rfl:d=m:=by omega);go_wp2_with fail;go_ret;rw[aY (by rw[N.out];simp),<-HT.out];exact⟨rfl,V.trans (H.mono V.size)⟩
end
section
open Go.RowKit Go.Shelf Go.Sort
theorem MZ: ∀args w,(callFunc 83 args).run aj w=.ok (.enter 83 args) w:=enters_of func83 (by rfl) (by rfl)
theorem aaJ(n:Int)(w:World):Calls aj 83 #[n] w λr w'=>r=.returned (.bool (decide (n<1) || decide (1000000<n)))/\w'=w:=by
 by_cases d:n<1
 ·have e1:decide (n<1)=true:=by grind
  go_enter func83,ntmps83;go_wp2;go_ret;simp_all
 ·have e1:decide (n<1)=false:=by grind
  go_enter func83,ntmps83;go_wp2;go_ret;simp
theorem XO{w:World}{t:Tp}{m:jl}(h:jE w t m)(A:Option Addr)(n c:Nat)(path:List St)(fr kL:Int)(hp:fE gV w A path)(hn:path.length=n)(hl:n<=100)(aa: ∀n∈t.edges,1<=n/\n<=1000000)(ad:ny t path=0)(h0:0<=fr)(Y:fr<=kL)(Z:kL<=qc t path):Calls aj 43 #[m.cells,.slice A n c,fr,kL] w λe w'=> ∃A' c',e=.returned (.tuple #[.slice A' (qY (uT t fr kL path 0)).length c',zI])/\fE iO w' A' (qY (uT t fr kL path 0))/\w w':=by
 have j:Own w _ [_]:=(Own.nil w).alloc 27 m.cells _ rfl;have ag:=j.b0.cell;have ak:=λW (H:w W)=>RQ (h.below H) A n c path (hp.below H) hn hl;have af:=λW (H:w W)=>abK 83 MZ #[] (λn=>decide (n<1) || decide (1000000<n)) m.A1 m.n1 m.c1 t.edges W (λW' x aE=>(aaJ x W').mono λ_ _ ⟨Y,Z⟩=>⟨Y,0,Z⟩) (h.lies.edges.below H) h.e1 (by have:=h.l1;omega);have ae:t.edges.any (λn=>decide (n<1) || decide (1000000<n))=false:=by grind
 have al:=zY ad;have a8:qc t path<=100000000:=by have:=qI aa path al.2.2.1;rw[JC aa ad];omega
 simp only[ae,ad]at af ak;have HT:=ah al.2.2.1;have HE:=ah aa;have HN:=ah hn;have aD:n<=40:=by omega
 generalize au:qc t path=lt at*;generalize av:uT t fr kL path 0=pp at*;have HP:=ah av;have e1:decide (fr<0)=false:=by grind
 have e2:decide (kL<fr)=false:=by grind
 have e3:decide (lt<kL)=false:=by grind
 unfold jl.cells at*;go_enter func43,ntmps43;go_wp2_with(first|((with_reducible first|refine(ak _ j.below).mono ?_|refine(af _ j.below).mono ?_);rintro e fU⟨rfl,fJ⟩;replace j:=j.grow fJ;have iG:=j.b0.cell));go_loopw [13,14,48] (λs a i wr=> ∃(k:Nat) (at_:Int) (A1:Option Addr) (c1:Nat) (J:List Sp),i=.int .i64 k/\k<=n/\a=.int .i64 at_/\0<=at_/\at_<=1000000*k/\s=.slice A1 k c1/\Hid (J++uT t fr kL (path.drop k) at_=pp)/\Hid (J.length=k)/\aq1 iO 130 wr (w.heap.size+1) A1 c1 J/\Own w wr [(w,27,#[.slice m.A1 m.n1 m.c1,.slice m.A2 m.n2 m.c2,.slice m.A3 m.n3 m.c3,.slice m.A4 m.n4 m.c4])]) (λ_ _ i _=>n-(intOf i).toNat);case atStart=>exact⟨0,0,none,0,[],rfl,aV _,rfl,Int.le_refl _,Int.le_refl _,rfl,ah (by assumption),ah rfl,aq1.nil _ _,j⟩
 case round=>
  obtain⟨k,at_,A1,c1,J,rfl,hk,rfl,aL,aM,rfl,hJ,O,U,j⟩:=hrel;have ag:=j.b0.cell;have am:w.heap.size+1<=wr.heap.size:=j.b0.lt;by_cases au:k<n;·obtain⟨s,hs⟩:=aq5 HN.out (show k<n by omega);obtain⟨g,off,rfl,M,a0,a1⟩:=hp.st hs;have Rh:=λW (H:w W)=>(H.cell (p:=⟨g,off+k*2,none⟩) M).trans a0;have ax:=λW (H:w W)=>(H.cell (p:=⟨g,off+k*2+1,none⟩) M).trans a1;have Cm:=Rh _ j.below;have CB:=ax _ j.below;have hr:=HT.out s (bP hs);obtain⟨i,hi,ai,ar⟩:=BL hr;obtain⟨ge,CG,aq,ap,c0⟩:=h.lies.edges.int ai;have az:=λW (H:w W)=>(H.cell (p:=⟨ge,CG+i,none⟩) ap).trans c0;have a6:=h.e1;(have a7:i<m.n1:=by omega);have a5:=HE.out (t.edges[i]!) (by rw[getElem!_pos t.edges i ai];simp);(have an:path.drop k=s::path.drop (k+1):=by obtain⟨Y,Z⟩:=aX.1 hs;rw[List.drop_eq_getElem_cons Y,Z]);have N:=hJ.out;rw[an,uT,abz,ar]at N;generalize t.edges[i]! =d at*;obtain⟨x1,x2⟩:=s;simp only at hi;subst hi;simp only[aq]at j ag;have jc:=Own.new1 j 58 #[i,x2];have aR:=jc.b0.cell;have a4:=jc.b1.cell;have a9:=az _ jc.below;cases x2 with|false=>simp only[bU,if_false]at N;have HJ:=ah N;have K:=Own.start3 wr 58 130 130 #[i,false] #[i,(max (fr-at_) 0:Int),(min (kL-at_) d:Int)] #[i,(max (fr-at_) 0:Int),(min (kL-at_) d:Int)];go_wp2_with(at_builtin;refine gW ND rfl _ _ rfl (w.heap.size+1) A1 c1 J k rfl O.out (U.below K.below) _ 1 [⟨i,max (fr-at_) 0,min (kL-at_) d⟩] 1 rfl rfl (xO K.b2) (by omega) (by decide) (aG am K.below.size) ?_;intro A2 c2 w5 uq ac _);go_roundw;(case rel=>refine⟨.slice A2 (k+1) c2,(at_+d:Int),_,_,_,((k+1:Nat):Int),⟨k+1,rfl,by omega,at_+d,rfl,by omega,by omega,A2,c2,rfl,J++ [⟨i,max (fr-at_) 0,min (kL-at_) d⟩],ah ?_,ah (by rw[bC,O.out];rfl),uq,?_⟩,rfl,rfl,rfl,rfl,rfl,rfl⟩;(·rw[List.append_assoc];exact HJ.out);·refine Own.grown (j.grow K.below) ac λg M=>?_;have:=U.gJ g M;refine⟨by omega,λx V=>?_⟩;simp only[dN]at V;subst V;omega);case measure=>simp[intOf];omega|true=>simp only[if_true]at N;have HJ:=ah N;have K:=Own.start3 wr 58 130 130 #[i,true] #[i,(d-min (kL-at_) d:Int),(d-max (fr-at_) 0:Int)] #[i,(d-min (kL-at_) d:Int),(d-max (fr-at_) 0:Int)];go_wp2_with(at_builtin;refine gW ND rfl _ _ rfl (w.heap.size+1) A1 c1 J k rfl O.out (U.below K.below) _ 1 [⟨i,d-min (kL-at_) d,d-max (fr-at_) 0⟩] 1 rfl rfl (xO K.b2) (by omega) (by decide) (aG am K.below.size) ?_;intro A2 c2 w5 uq ac _);go_roundw;(case rel=>refine⟨.slice A2 (k+1) c2,(at_+d:Int),_,_,_,((k+1:Nat):Int),⟨k+1,rfl,by omega,at_+d,rfl,by omega,by omega,A2,c2,rfl,J++ [⟨i,d-min (kL-at_) d,d-max (fr-at_) 0⟩],ah ?_,ah (by rw[bC,O.out];rfl),uq,?_⟩,rfl,rfl,rfl,rfl,rfl,rfl⟩;(·rw[List.append_assoc];exact HJ.out);·refine Own.grown (j.grow K.below) ac λg M=>?_;have:=U.gJ g M;refine⟨by omega,λx V=>?_⟩;simp only[dN]at V;subst V;omega);case measure=>simp[intOf];omega
  ·(obtain rfl:k=n:=by omega);(have aw:J=pp:=by have:=hJ.out;rw[dJ (by rw[HN.out];omega),uT,List.append_nil]at this;omega);subst aw;have ae:=λW (H:wr W)=>aez A1 k c1 J W (U.below H).rows O.out (by omega);go_wp2_with(first|((with_reducible refine(ae _ gY).mono ?_);rintro e w5⟨A9,c9,rfl,ZI,xW⟩));go_ret2;exact⟨A9,c9,rfl,ZI.rows,gZ j.below xW⟩
end
theorem aaK(h:rX t m=true){fr kL:Int}(O:0<=fr)(U:fr<=kL)(V:kL<=qg m+m.gap): ∃x,zC t m=some x/\jr t=0/\ny t m.path=0/\0<=x.2/\x.2+kL<=qc t m.path/\qc t m.path<=100000000/\yH t m fr kL=qY (uT t (x.2+fr) (x.2+kL) m.path 0):=by
 obtain⟨d,a2,a3,x,j,N⟩:=V5 h;obtain⟨b1,b2,b3⟩:=arW d j;have H:=jC d;have K:qc t m.path<=100000000:=by have M:=zY b1;have:=qI H m.path M.2.2.1;rw[JC H b1];omega
 refine⟨x,j,d,b1,b3,by omega,K,?_⟩;unfold yH;rw[if_neg (by grind),j];simp only;have J:abA t m.path (x.2+fr) (x.2+kL)=0:=by
  unfold abA;rw[if_neg (by omega),if_neg];rintro (e |e |e |e);·grind
  ·omega
  ·omega
  ·omega
 unfold ah5;rw[if_pos J]
theorem asj(h:m.fP≠ []): ∃s,m.fP[m.fP.length-1]? =some s/\qg m=s.kL:=by
 unfold qg;rw[List.getLast?_eq_getElem?];have:0<m.fP.length:=List.length_pos_iff.2 h;have hi:m.fP.length-1<m.fP.length:=by omega
 simp_all
theorem aeB{m:jl}(h:jE w t m)(ma:Ma)(v:DF)(hm:EK w ma v)(H:rX t ma=true)(fr kL:Int)(h0:0<=fr)(h1:fr<=kL)(K:kL<=qg ma+ma.gap):Calls aj 16 #[m.cells,nO ma v,fr,kL] w λe w'=> ∃A' c',e=.returned (.tuple #[.slice A' (yH t ma fr kL).length c',zI])/\fE iO w' A' (yH t ma fr kL)/\w w':=by
 have d:Own w _ [_,_]:=Own.iY w 27 42 m.cells (nO ma v);have am:=d.b1.cell;obtain⟨x,g1,g2,g3,g4,g5,g6,g7⟩:=aaK H h0 h1 K;have aa:=λW (j:w W)=>Wi (h.below j) ma v (hm.below j);have M:=λW (j:w W)=>ab3 (h.below j) ma v (hm.below j) g2;have N:=λW (j:w W)=>XO (h.below j) v.A1 v.n1 v.c1 ma.path (x.2+fr) (x.2+kL) (hm.path.below j) hm.e1 hm.l1 (jC g2) g3 (by omega) (by omega) g5;obtain⟨s,O,ad⟩:=asj (BM H).2;have ae:=List.length_pos_iff.2 (BM H).2;have ag:qg ma+ma.gap<=100000000:=by obtain⟨U,a2,a3,y,a4,a5⟩:=V5 H;obtain⟨b1,b2,b3⟩:=arW U a4;omega
 have an:=Dz ma.fP 0 (BM H).1 s (bP O);rw[hm.e2]at O ae;obtain⟨g,off,ai,hg,a0,U⟩:=hm.fP.sc O;rw[H]at aa;rw[g1]at M;rw[<-g7]at N;have Rh:=λW (j:w W)=>(j.cell (p:=⟨g,off+(v.n2-1)*2,none⟩) hg).trans a0;rw[ad]at K ag;generalize yH t ma fr kL=ex at*;obtain⟨p,hp⟩: ∃p,v.n2=p+1:=⟨v.n2-1,by omega⟩;have aw:((v.n2:Int)-1)=(p:Int):=by omega
 have af:v.n2-1=p:=by omega
 rw[af]at Rh;have ax:p<v.n2:=by omega
 obtain⟨s1,s2⟩:=s;simp only at K ag an Rh;obtain⟨x1,x2⟩:=x;simp only at g4 g5 N;have f1:decide (fr<0)=false:=by simpa using h0
 have f2:decide (kL<fr)=false:=by simpa using h1
 have f3:decide (s1+ma.gap<kL)=false:=by simpa using K
 have av:=hm.l2;unfold arH at M;unfold nO at*;simp only[ai]at d am aa M N ⊢;unfold jl.cells at*;clear g1 g7 O ad H ae hp a0 U af;go_enter func16,ntmps16;go_wp2_with fail;apply iM;case lX=>intro u;simp only[bV,aq9,aP,ay,aA,aB,aT,aJ];with_reducible rfl
 case hm=>kernel_rfl
 case hB=>kernel_rfl
 case hap=>kernel_rfl
 repeat(first|(apply Lex.is;·(intro u w' Z J;simp[fH,aC,Is]at J;refine fF ?_ ?_;(·(first|rfl|(simp[aF,yielded,J];done)));intro ap hK;have Y:=d.grow Z;have ak:=Y.below;have EF:=Y.b0.cell;have au:=Y.b1.cell;go_wp2_with((first|((with_reducible refine(aa _ ak).mono ?_);rintro e fU⟨rfl,al⟩)));(try simp only[J]at hK);refine hK _ _ ?_ rfl;first|exact aH _ _|exact al)))
 apply Lex.nil;intro u w' Z J;simp only[gQ]at J;have ac:=J 28 _ rfl;simp only[Is]at ac;simp only[ac];replace d:=d.grow Z;have aq:=d.b0.cell;have ar:=d.b1.cell;go_wp2_with(first|((with_reducible refine(M _ d.below).mono ?_);rintro e fU⟨rfl,V⟩;replace d:=d.grow V;have iG:=d.b0.cell;have jQ:=d.b1.cell)|((with_reducible refine(N _ d.below).mono ?_);rintro e fU⟨A9,c9,rfl,IJ,V⟩;replace d:=d.grow V));go_ret2;exact⟨A9,c9,rfl,IJ,d.below⟩
theorem akN{m:jl}(h:jE w t m)(x:Tr)(j:kZ)(V:zJ w x j)(now:Int):Calls aj 15 #[m.cells,jf x j,now] w λe w'=> ∃A' c',e=.returned (.slice A' (Jv t x now).length c')/\fE iO w' A' (Jv t x now)/\w w':=by
 have d:Own w _ [_,_]:=Own.iY w 27 44 m.cells (jf x j);have af:=d.b0.cell;have K:=λW (J:w W)=>Bj (h.below J) x j (V.below J);have O:=λW (J:w W)=>I5 x.ma j.v (now-x.at_) W (V.ma.below J);have hA:Jv t x now=match jR t x with|none=>[]|some n=>if x.stops≠ []\/jK now=false then [] else if jB x.ma.fP (now-x.at_) 0<=n then [] else yH t x.ma n (jB x.ma.fP (now-x.at_) 0):=rfl
 have aa:x.stops≠ []<->0<j.n3:=by rw[<-V.e3];grind
 simp only[aa]at hA;unfold jK at hA;generalize Jv t x now=au at*;have ai:=acf x j;have ak:=acg x j;have al:=Zy x j;have am:=Wj x j;have an:=ach x j;have ap:=ai0 x j;have aq:=Wn x j;rcases hfr:jR t x with _ |n;focus(rw[hfr]at hA K;obtain rfl:au= []:=hA;unfold rE at K)
 rotate_left;focus(obtain⟨n0,ac,ad,Z⟩:=EI hfr;obtain⟨r0,r1⟩:=JD Z (now-x.at_);have ae:=(V5 Z).2.2.1;obtain⟨_,_,_,_,_,_,_,_,_,_,_,q0,q1⟩:=(Le t x).1 ac;have M:=λW (J:w W) (ag:n<jB x.ma.fP (now-x.at_) 0)=>aeB (h.below J) x.ma j.v (V.ma.below J) Z n (jB x.ma.fP (now-x.at_) 0) n0 (by omega) (by omega);rw[hfr]at hA K;simp only at hA;generalize jB x.ma.fP (now-x.at_) 0=rr at*;unfold rE at K;by_cases h1:0<j.n3;(focus(rw[if_pos (.inl h1)]at hA;subst hA));rotate_left;focus(by_cases h2:now<0;(focus(rw[if_pos (.inr (by simp;omega))]at hA;subst hA;have f2:decide (now<0)=true:=by simpa using h2));rotate_left;focus((have f2:decide (now<0)=false:=by simpa using h2);by_cases h3:268435456<now;(focus(rw[if_pos (.inr (by simp;omega))]at hA;subst hA;have f3:decide (268435456<now)=true:=by simpa using h3));rotate_left;focus((have f3:decide (268435456<now)=false:=by simpa using h3);rw[if_neg (by simp;omega)]at hA;by_cases U:rr<=n;(·rw[if_pos U]at hA;subst hA;(have f4:decide (rr<=n)=true:=by simpa using U);clear M;unfold nO at O;unfold jl.cells at*;go_enter func15,ntmps15;go_wp2_with(first|((with_reducible refine iQ d ?_ _ rfl rfl _ bg rfl (iF _ j) ?_);(·rfl))|((with_reducible refine(K _ d.below).mono ?_);rintro e N⟨rfl,H⟩;replace d:=d.grow H;have Y:=d.b1.cell)|((with_reducible refine(O _ d.below).mono ?_);rintro e N⟨rfl,H⟩;replace d:=d.grow H;have Y:=d.b0.cell;have jQ:=d.b1.cell));go_ret;exact⟨none,0,rfl,fE.nil _ _,d.below⟩);(have f4:decide (rr<=n)=false:=by simpa using U);rw[if_neg U]at hA;rw[<-hA]at M;replace M:=λW (J:w W)=>M W J (by omega);clear hA;unfold nO at O M;unfold jl.cells at*;go_enter func15,ntmps15;go_wp2_with(first|((with_reducible refine iQ d ?_ _ rfl rfl _ bg rfl (iF _ j) ?_);(·rfl))|((with_reducible refine(K _ d.below).mono ?_);rintro e N⟨rfl,H⟩;replace d:=d.grow H;have Y:=d.b1.cell)|((with_reducible refine(O _ d.below).mono ?_);rintro e N⟨rfl,H⟩;replace d:=d.grow H;have Y:=d.b0.cell;have jQ:=d.b1.cell)|((with_reducible refine(M _ d.below).mono ?_);rintro e N⟨A9,c9,rfl,TN,H⟩;replace d:=d.grow H));go_ret;exact⟨A9,c9,rfl,TN,d.below⟩))))
 all_goals(unfold nO at O;unfold jl.cells at*;go_enter func15,ntmps15;go_wp2_with(first|((with_reducible refine iQ d ?_ _ rfl rfl _ bg rfl (iF _ j) ?_);(·rfl))|((with_reducible refine(K _ d.below).mono ?_);rintro e N⟨rfl,H⟩;replace d:=d.grow H;have Y:=d.b1.cell));go_ret;exact⟨none,0,rfl,fE.nil _ _,d.below⟩)
end Go.Proofs.YthnmgjngniciaaaGreatDoor
