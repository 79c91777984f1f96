/- Parts. -/
import Derived.Test.YthnmgjngniciaaaGreatDoorM15
import Derived.Test.YthnmgjngniciaaaGreatDoorM14
import Derived.Test.YthnmgjngniciaaaGreatDoorM03
import Derived.Test.YthnmgjngniciaaaGreatDoorM11
import Derived.Test.YthnmgjngniciaaaGreatDoorM12
import Derived.Test.YthnmgjngniciaaaGreatDoorM09
import Derived.Deep.DeepCutAuto
set_option linter.all false
set_option maxHeartbeats 16000000
set_option maxRecDepth 8000
open BitVec renaming ofInt→aQ
open List renaming eq_nil_of_length_eq_zero→dw,getElem?_append_left→dP,getElem?_cons_succ→fB,getElem?_cons_zero→eP,getElem?_map→bW,length_append→bC,length_cons→bK,length_nil→dU,length_take→dX,map→bV,map_append→eX,mem_append→dK,mem_cons→bJ,mem_of_getElem?→bP,setIfInBounds_toArray→ay,set_cons_succ→aB,set_cons_zero→aA,take_of_length_le→aY
open Nat renaming add_zero→bI,le_refl→aW,le_trans→aG,lt_of_lt_of_le→aU,mod_eq_of_lt→dF,reduceAdd→aT,zero_add→aJ,zero_le→aV
open Option.some renaming injEq→aO
namespace Go.Proofs.YthnmgjngniciaaaGreatDoor
open Go.RowKit Go.Shelf Tryz
open Act renaming put→aP
open Below renaming heap_setCell→aN,refl→aH
open Lib renaming hid→ah
open Region renaming binds→aC
open Tryz renaming prog→aj,underlying45→dW
variable{cs:Array Value}{S:wE}{er id:Int}{L L1 L2:List Bk}{l:List Int}{f:List Int × Int × List Int}{acc ps:List Pk}{xs:List WV}{bs:List UInt8}{B B' c c1 c3 g m n p q:Nat}{s s':Nat × Int}{Df:Nat->Nat->Prop}{D:Nat->Prop}{A A1 A3:Option Addr}{R:Option Nat}{v:Value}{W W' w w':World}
structure Ms where
  id:Int
  t:Int
  ack:Int
  sS:Int
  v:List Int
  p:List Pk
def TJ (w:World) (A:Option Addr) (ps:List Pk):Prop:= ∃xs:List WV,fE qJ w A xs/\xs.map (·.id)=ps.map (·.id)/\xs.length=ps.length/\ ∀(i:Nat) x p,xs[i]? =some x->ps[i]? =some p->x.n=p.v.length/\x.n<=x.c/\x.c<=maxLen/\fE aq7 w x.A p.v
theorem TJ.below(h:TJ w A ps)(d:w w'):TJ w' A ps:=by obtain⟨xs,j,H,J,K⟩:=h;exact⟨xs,j.below d,H,J,λi x p N M=>by obtain⟨k1,k2,k3,O⟩:=K i x p N M;exact⟨k1,k2,k3,O.below d⟩⟩
structure Vx where
  Av:Option Addr
  cv:Nat
  Ap:Option Addr
  cp:Nat
def oC (m:Ms) (a:Vx):Array Value:= #[.int .i64 m.id,.int .i64 m.t,.int .i64 m.ack,.int .i64 m.sS,.slice a.Av m.v.length a.cv,.slice a.Ap m.p.length a.cp]
structure P8 (w:World) (m:Ms) (a:Vx):Prop where
  v:fE aq7 w a.Av m.v
  p:TJ w a.Ap m.p
  cv:m.v.length<=a.cv
  cp:m.p.length<=a.cp
  vl:m.v.length<=20000
  pl:m.p.length<=60000
  pv: ∀p∈m.p,p.v.length<=60000
theorem P8.below{m:Ms}{a:Vx}(h:P8 w m a)(d:w w'):P8 w' m a:={h with v:=h.v.below d,p:=h.p.below d}
def Fe (l1 l2:List Int) (v:Value) (w:World):Prop:= ∃bv A1 c1 A2 c2,v=.slice (some ⟨bv,0,none⟩) 2 2/\fK w bv 22 #[.slice A1 l1.length c1,.slice A2 l2.length c2]/\fE aq7 w A1 l1/\fE aq7 w A2 l2
theorem Fe.grow{l1 l2:List Int}(h:Fe l1 l2 v w)(d:w w'):Fe l1 l2 v w':=by obtain⟨bv,A1,c1,A2,c2,e,j,H,J⟩:=h;exact⟨bv,A1,c1,A2,c2,e,j.below d j.lt,H.below d,J.below d⟩
def ac6 (N:Nat) (l:List Int) (v:Value) (w:World):Prop:= ∃A c,v=.slice A N c/\fE aq7 w A l
theorem ac6.grow{d:Nat}(h:ac6 d l v w)(j:w w'):ac6 d l v w':=by obtain⟨A,c,e,H⟩:=h;exact⟨A,c,e,H.below j⟩
def rG (id:Int):List Int:=H9 id++(nG id).1
def arU (id:Int):Int:=fQ 0+fQ 1+((rG id).map fQ).sum
def yZ (l:List Int):Int:=(l.map fQ).sum
theorem J8(l:List Int):0<=yZ l/\yZ l<=32*(l.length:Int):=by
 induction l with
 |nil=>simp[yZ]
 |cons x l j=>
  have d:=lq x;have e:yZ (x::l)=fQ x+yZ l:=by simp[yZ]
  rw[e,bK];omega
def oP (l:List Pk):Int:=(l.map CY).sum
theorem Ib(l:List Pk)(h: ∀p∈l,p.v.length<=60000):0<=oP l/\oP l<=2080000*(l.length:Int):=by
 induction l with
 |nil=>simp[oP]
 |cons x l J=>
  obtain⟨d,K⟩:=EY x (h x (by simp));have j:=xR d (vV x).length;rw[aY ig]at j;have M:=J (λp H=>h p (by simp[H]));have e:oP (x::l)=CY x+oP l:=by simp[oP]
  have e2:CY x=arf (vV x):=rfl;rw[e,bK];omega
def J9 (m:Ms):Int:=arU m.id+oP m.p
def zf (bs:List UInt8) (m:Ms):Bool:=decide (8*(bs.length:Int)-J9 m=0) || decide ((nth bs (bs.length-1)).toNat % 2 ^ (8*(bs.length:Int)-J9 m).toNat=0)
theorem TK(h:PE id=some f):0<=id/\id<160:=by
 refine Classical.byContradiction λhn=>?_;have e:PE id=none:=by unfold PE;iterate 16 rw[if_neg (by omega)]
 rw[e]at h;cases h
set_option maxRecDepth 20000 in
theorem al9: ∀id:Fin 160,(nG (id.val:Int)).1.length<=7/\(nG (id.val:Int)).2.2.length<=20:=by decide
theorem AQ(id:Int):(nG id).1.length<=7/\(nG id).2.2.length<=20:=by cases h:PE id with|none=>unfold nG;rw[h];decide|some f=>obtain⟨d,j⟩:=TK h;have:=al9 ⟨id.toNat,by omega⟩;simpa only[show((id.toNat:Nat):Int)=id by omega] using this
theorem TL(id:Int):(H9 id).length<=3:=by unfold H9;split <;> decide
theorem agb(k:Nat)(d:k<=7):binOp .shl 3 (1:Int) (k:Int)=pure (.int .i64 ((2 ^ k:Nat):Int)):=by match k,d with|0,_=>rfl|1,_=>rfl|2,_=>rfl|3,_=>rfl|4,_=>rfl|5,_=>rfl|6,_=>rfl|7,_=>rfl
theorem ac7(t:TypeId)(n k:Nat)(j:k<=7)(hn:n<4294967296):binOp .and t (n:Int) (.int .i64 (((2 ^ k:Nat):Int)-1))=pure (.int .i64 ((n % 2 ^ k:Nat):Int)):=by
 have H:1<=2 ^ k:=Nat.one_le_two_pow;have J:2 ^ k<=128:=by have:=Nat.pow_le_pow_right (n:=2) (by decide) j;omega
 have d:((2 ^ k:Nat):Int)-1=((2 ^ k-1:Nat):Int):=by omega
 have e:IntKind.i64.wrap ((aQ 64 (n:Int) &&& aQ 64 ((2 ^ k-1:Nat):Int)).toNat:Int)=((n % 2 ^ k:Nat):Int):=by rw[oK,oK,BitVec.toNat_and,BitVec.toNat_ofNat,BitVec.toNat_ofNat,dF (by omega),dF (by omega),Nat.and_two_pow_sub_one_eq_mod,IntKind.wrap_i64];have:=Nat.mod_lt n (show 0<2 ^ k by omega);omega
 rw[d];show Op.intBits .and .i64 _ _=_;exact congrArg (λn=>(pure (Value.int .i64 n):Sem Value)) e
theorem agc(bs:List UInt8)(A:Option Addr)(c:Nat)(m:Ms)(a:Vx)(w:World)(hT:Tab w)(hB:aq2 w A c bs)(hm:P8 w m a)(hl:bs.length<=2000)(h0:0<bs.length)(bS:0<=8*(bs.length:Int)-J9 m)(bX:8*(bs.length:Int)-J9 m<=7):Calls aj 170 #[.slice A bs.length c,oC m a] w λe w'=>e=.returned (.bool (zf bs m))/\w w':=by
 obtain⟨Av,cv,Ap,cp⟩:=a;have hO:Own w _ [_]:=Own.jD w 196 (oC m ⟨Av,cv,Ap,cp⟩);have az:=λW=>afT m.id W;unfold Gh Af at az;obtain⟨f,hf⟩:=fD (nG m.id);rw[<-hf]at az;have HF:=ah hf;clear hf;unfold oC at hO ⊢;simp only at hO ⊢;have cz:=hO.b0.cell;have bh:=λW (h:Tab W)=>pF 0 W h;rw[show fQ 0=8 by decide]at bh;have bi:=λW (h:Tab W)=>pF 1 W h;rw[show fQ 1=10 by decide]at bi;obtain⟨n,hn⟩:=fD bs.length;have bu:0<bs.length:=h0;rw[<-hn];go_enter func170,ntmps170;go_wp2_with(first|((with_reducible refine(az _).mono ?_);rintro e w1⟨A1,c1,A3,c3,rfl,bA,Z⟩;have Y:=(hO.grow Z).new1 240 #[.slice A1 f.1.length c1,f.2.1,.slice A3 f.2.2.length c3];have a6:=hT.below Y.below)|((with_reducible first|refine(bh _ a6).mono ?_|refine(bi _ a6).mono ?_);rintro e w2⟨rfl,fU⟩;obtain rfl:=fU.symm));have TM:=ah bA;have bB:=AQ m.id;rw[<-HF.out]at bB;have bE:=TL m.id;obtain⟨J,bc⟩:=fD (H9 m.id);have au:=λW=>acT m.id W;rw[<-bc]at au bE;have cd:=ah bc;unfold JQ at au;have aR:w1 (w1.alloc (.cells #[.slice A1 f.1.length c1,f.2.1,.slice A3 f.2.2.length c3] 240)):=gY.alloc ig _;clear bc bA hO cz az;obtain⟨aa,hN⟩:=fD (J.length+f.1.length);have bm:=ah hN;have cF:aa<=10:=by omega
 clear hN;apply iM;case lX=>intro u;simp only[bV,aq9,aP,ay,aA,aB,aT,aJ];rfl
 case hm=>kernel_rfl
 case hB=>kernel_rfl
 case hap=>kernel_rfl
 apply Lex.is;·(intro u w' H d;simp[fH,aC]at d;refine fF (by first |rfl) ?_;intro V j;have U:=Y.grow H;have ba:=U.b0.cell;have bb:=U.b1.cell;go_wp2_with(fail);refine j _ _ ?_ rfl;first|exact aH _ _)
 apply Lex.is;·(intro u w' H d;simp[fH,aC,Is]at d;refine fF (by first |rfl) ?_;intro V j;have U:=Y.grow H;have ba:=U.b0.cell;have bb:=U.b1.cell;go_wp2_with(fail);(try simp only[d]at j);refine j _ _ ?_ rfl;first|exact aH _ _)
 refine Lex.word (WE J) (λ_ _ _ h hb=>h.grow hb) ?_ ?_;·(intro u w' H d;refine jh rfl ?_;simp only[gQ]at d;have q0:=d ⟨1,.data⟩ (by simp) rfl _ rfl;simp only[Is]at q0;clear d;intro V j;go_wp2_with((with_reducible refine(au _).mono ?_);rintro e w3⟨A7,c7,rfl,Gv,cJ,cC,al⟩);(try simp only[q0]at j);exact j _ _ al ⟨A7,c7,rfl,Gv⟩)
 apply Lex.is;·(intro u w' H d;simp[fH,aC]at d;refine fF (by first |rfl) ?_;intro V j;have U:=Y.grow H;have ba:=U.b0.cell;have bb:=U.b1.cell;go_wp2_with(fail);refine j _ _ ?_ rfl;first|exact aH _ _)
 apply Lex.is;·(intro u w' H d;simp[fH,aC,Is]at d;refine fF (by first |rfl) ?_;intro V j;have U:=Y.grow H;have ba:=U.b0.cell;have bb:=U.b1.cell;go_wp2_with(fail);(try simp only[d]at j);refine j _ _ ?_ rfl;first|exact aH _ _)
 refine Lex.word (Fe J f.1) (λ_ _ _ h hb=>h.grow hb) ?_ ?_;·(intro u w' H d;refine jh rfl ?_;simp only[gQ]at d;have q0:WE J (u 2) w':=d ⟨2,.data⟩ (by simp) rfl _ rfl;have q4:=d ⟨4,.data⟩ (by simp) rfl _ rfl;simp only[Is]at q4;obtain⟨A7,c7,q0,Gv⟩:=q0;clear d;intro V j;go_wp2_with fail;(try simp only[q0,q4]at j);exact j _ _ jm ⟨_,A7,c7,A1,c1,rfl,fK.new _ _ _,Gv.below jm,(TM.out.own.below (aR.trans (H.mono aR.size))).below jm⟩)
 refine Lex.word (ac6 aa (J++f.1)) (λ_ _ _ h hb=>h.grow hb) ?_ ?_;·(intro u w' H d;refine jh rfl ?_;simp only[gQ]at d;have q0:Fe J f.1 (u 5) w':=d ⟨5,.data⟩ (by simp) rfl _ rfl;obtain⟨bv,A7,c7,A8,c8,q0,cx,Gv,P9⟩:=q0;clear d;intro V j;go_wp2_with((with_reducible refine(ac3 bv A7 c7 A8 c8 J f.1 _ cx Gv P9 (by omega) (by omega)).mono ?_);rintro e w3⟨A9,c9,rfl,ZI,al⟩);(try simp only[q0]at j);exact j _ _ al ⟨A9,c9,by rw[bm.out],ZI.rows⟩)
 refine Lex.is (c:=.int .i64 (aa:Nat)) ?_ ?_;·(intro u w' H d;refine jh rfl ?_;simp only[gQ]at d;have q0:ac6 aa (J++f.1) (u 6) w':=d ⟨6,.data⟩ (by simp) rfl _ rfl;obtain⟨A9,c9,q0,TN⟩:=q0;clear d;intro V j;go_wp2_with fail;(try simp only[q0]at j);exact j _ _ gY rfl)
 apply Lex.is;·(intro u w' H d;simp[fH,aC]at d;refine fF (by first |rfl) ?_;intro V j;skip;go_wp2_with(fail);refine j _ _ ?_ rfl;first|exact aH _ _)
 apply Lex.nil;intro u w2 bO d;simp only[gQ]at d;obtain⟨A9,c9,h6,TN⟩:=d 6 _ rfl;have h7:=d 7 _ rfl;have h8:=d 8 _ rfl;simp only[Is]at h7 h8;clear d;simp only[h6,h7,h8];obtain⟨M,ax⟩:=fD (J++f.1);rw[<-ax]at TN;have aq:Hid (M=rG m.id/\M.length=aa):=ah ⟨by rw[ax,cd.out,HF.out];rfl,by rw[ax,bC,bm.out]⟩;replace Y:=Y.grow bO;have a7:=hT.below Y.below;clear bO a6 bB bE au bh bi h6 h7 h8 ax aR Z;have a1:=λv W (h:Tab W)=>pF v W h;have HT:=ah hT;have HB:=ah hB;have ap:=ah hm;have HS:=ah (And.intro bS bX);have bq:Hid (∀k,0<=yZ (M.take k)/\yZ (M.take k)<=320):=ah (λk=>by
  have h1:=J8 (M.take k);have h2:(M.take k).length<=10:=by rw[dX,aq.out.2];omega
  omega)
 clear hT hB hm bS bX;go_wp2_with fail;go_loopw [7,30] (λs i wr=> ∃k:Nat,i=.int .i64 k/\k<=aa/\s=.int .i64 (18+yZ (M.take k))/\w2 wr) (λ_ i _=>aa-(intOf i).toNat);case atStart=>exact⟨0,rfl,aV _,rfl,aH _ _⟩
 case round=>
  obtain⟨k,rfl,H,rfl,K⟩:=hrel;have Z:=bq.out k;by_cases ai:k<aa;·obtain⟨x,N⟩:=aq5 aq.out.2 ai;obtain⟨g,off,ad,hg,hc⟩:=(TN.below K).get N;have a0:=hc 0 x rfl;simp only[aq7,Nat.mul_one,bI]at a0;subst ad;have bw:=a7.below K;(have af:yZ (M.take (k+1))=yZ (M.take k)+fQ x:=by rw[take_snoc' N];simp[yZ]);have ac:=bq.out (k+1);rw[af]at ac;have aM:=ah af;obtain⟨sk,ae⟩:=fD (yZ (M.take k));rw[<-ae]at Z ac ⊢;have aL:=ah ae;have ca:=a1 x wr bw;obtain⟨wx,Xd⟩:=fD (fQ x);rw[<-Xd]at ac ca;have cm:=ah Xd;clear af ae hc N Xd a1 bw a7;go_wp2_with((with_reducible refine ca.mono ?_);rintro e w3⟨rfl,cB⟩;obtain rfl:=cB.symm);go_roundw;(case rel=>exact⟨k+1,by go_num,by omega,by rw[aM.out,<-aL.out,<-cm.out];congr 1;omega,K⟩);case measure=>simp[intOf];omega
  ·(obtain rfl:k=aa:=by omega);have ak:M.take k=M:=aY (by rw[aq.out.2];exact aW _);rw[ak]at Z ⊢;have a5:=Y.grow K;obtain⟨hw,bd⟩:=fD (18+yZ M);have cf:Hid (hw=arU m.id):=ah (by rw[bd,aq.out.1];unfold arU yZ;rw[show fQ 0=8 by decide,show fQ 1=10 by decide];omega);(have cI:0<=hw/\hw<=400:=by omega);rw[<-bd];have bx:=a5.b0.cell;clear bd Z ak ai a7 TN a1;obtain⟨w5,rfl⟩:=fD wr;have am:w w5:=a5.below;have cw:=HT.out.below am;have Qa:=ap.out.below am;have xQ:=HB.out.below am;obtain⟨np,an⟩:=fD m.p.length;(have ct:np<=60000:=by rw[an];exact ap.out.pl);rw[<-an]at bx;have RS:=ah an;have bn:Hid (∀k,0<=oP (m.p.take k)/\oP (m.p.take k)<=2080000*(np:Int)):=ah (λk=>by have h1:=Ib (m.p.take k) (λp J=>ap.out.pv p (List.mem_of_mem_take J));(have h2:(m.p.take k).length<=np:=by rw[dX,an];omega);omega);have bk:=ah am;have ch:=ah Qa;have cc:=ah xQ;clear a5 Y K am Qa xQ an;go_wp2_with fail;go_loopw [7,42] (λs i wr=> ∃k:Nat,i=.int .i64 k/\k<=np/\s=.int .i64 (hw+oP (m.p.take k))/\w5 wr) (λ_ i _=>np-(intOf i).toNat);(case atStart=>exact⟨0,rfl,aV _,by simp[oP],aH _ _⟩);case round=>obtain⟨O,rfl,hj,rfl,K⟩:=hrel;have Z:=bn.out O;by_cases ai:O<np;(·obtain⟨xs,h1,h2,h3,h4⟩:=ch.out.p;obtain⟨x,N⟩:=aq5 (h3.trans RS.out.symm) ai;obtain⟨p,J⟩:=aq5 RS.out.symm ai;obtain⟨e1,e2,e3,e4⟩:=h4 O x p N J;(have bL:x.id=p.id:=by(have k1:(xs.map (·.id))[O]? =some x.id:=by rw[bW,N];rfl);(have k2:(m.p.map (·.id))[O]? =some p.id:=by rw[bW,J];rfl);rw[h2,k2]at k1;injection k1 with k1;exact k1.symm);obtain⟨g,off,ad,hg,hc⟩:=(h1.below K).get N;have a0:=hc 0 _ rfl;have cn:=hc 1 _ rfl;simp only[qJ,bI]at a0 cn;rw[bL]at a0;have a9:=(aH wr wr).alloc ig (.cells #[p.id,.slice x.A x.n x.c] 198);have cy:=(fK.new wr 198 #[p.id,.slice x.A x.n x.c]).cell;have ag:=aji p x.A x.n x.c (wr.alloc (.cells #[p.id,.slice x.A x.n x.c] 198)) ((cw.below K).below a9) ((e4.below K).below a9) e1.symm (by rw[e1];exact ap.out.pv p (bP J)) ⟨e2,e3⟩;(have af:oP (m.p.take (O+1))=oP (m.p.take O)+CY p:=by rw[take_snoc' J];simp[oP]);have ac:=bn.out (O+1);rw[af]at ac;have aM:=ah af;obtain⟨sk,ae⟩:=fD (oP (m.p.take O));rw[<-ae]at Z ac ⊢;have aL:=ah ae;obtain⟨sp,bf⟩:=fD (CY p);rw[<-bf]at ac ag;have ci:=ah bf;obtain⟨ip,bN⟩:=fD p.id;rw[<-bN]at a0 cy ag;replace ad:Ap=some ⟨g,off,none⟩:=ad;subst ad;clear af ae bf bN hc N J h1 h2 h3 h4 e1 e2 e3 e4 bL a9;go_wp2_with((with_reducible refine ag.mono ?_);rintro e w3⟨rfl,al⟩);go_roundw;(case rel=>exact⟨O+1,by go_num,by omega,by rw[aM.out,<-aL.out,<-ci.out];congr 1;omega,K.trans (jm.trans (al.mono (by simp)) |>.mono K.size)⟩);case measure=>simp[intOf];omega);·(obtain rfl:O=np:=by omega);have ak:m.p.take O=m.p:=aY (by rw[RS.out];exact aW _);rw[ak]at Z ⊢;obtain⟨sz,ag⟩:=fD (hw+oP m.p);rw[<-ag];have bo:Hid (sz=J9 m):=ah (by rw[ag,cf.out];rfl);have hS:=HS.out;rw[<-bo.out]at hS;obtain⟨Q,aw⟩:=Int.eq_ofNat_of_zero_le hS.1;have cg:=ah aw;rw[<-hn]at aw hS bu;(have a4:Q<=7:=by omega);obtain⟨n1,rfl⟩: ∃n1,n=n1+1:=⟨n-1,by omega⟩;(have cu:8*((n1:Int)+1)-sz=(Q:Int):=by rw[<-aw];push_cast;rfl);(have cA:n1=bs.length-1:=by omega);(have cD:8*(bs.length:Int)-sz=(Q:Int):=by rw[<-cu,<-hn];push_cast;rfl);have HN:=ah hn;obtain⟨g,off,ad,hg,hc⟩:=(cc.out.below K).at_ (k:=n1) (by omega);subst ad;obtain⟨x,N⟩:=fD (nth bs n1);rw[<-N]at hc;have HX:=ah N;have aD:Hid (zf bs m=(decide (Q=0) || decide (x.toNat % 2 ^ Q=0))):=ah (by unfold zf;rw[<-bo.out,cg.out,<-HN.out,HX.out];simp);have ar:=bk.out.trans (K.mono bk.out.size);clear ag aw hn N ak Z ai ct hS bx bu;by_cases av:Q=0;(·have aE:Hid (zf bs m=true):=ah (by rw[aD.out,av];rfl);(have f0:((Q:Int)==0)=true:=by rw[beq_iff_eq];omega);clear aD av hc;go_wp2_with fail;refine ara (by kernel_rfl) ?_;(repeat(first|(apply gX.want rfl;(·intro w' H V Q' j;skip;go_wp2_with(fail);first|exact aH _ _);(·simp only[aP,ay,aA,aB];rfl))|(apply gX.skip rfl;·simp only[aP,ay,aA,aB];rfl)));refine gX.nil ?_;intro w' H;go_wp2_with fail;go_ret;rw[aE.out];exact⟨rfl,ar.trans (H.mono ar.size)⟩);·(have f0:((Q:Int)==0)=false:=by rw[beq_eq_false_iff_ne];omega);obtain⟨P,hP⟩:=fD (2 ^ Q);(have cG:1<=P/\P<=128:=by rw[hP];exact⟨Nat.one_le_two_pow,by have:=Nat.pow_le_pow_right (n:=2) (by decide) a4;omega⟩);(have cE:binOp .shl 3 (1:Int) (Q:Int)=pure (P:Int):=by rw[hP];exact agb Q a4);have a8:=ac7 3 x.toNat Q a4 (by have:=x.toNat_lt;omega);rw[<-hP]at a8;obtain⟨y,hy⟩:=fD (x.toNat % P);rw[<-hy]at a8;have aE:Hid (zf bs m=decide (y=0)):=ah (by rw[aD.out,<-hP,<-hy];simp[av]);obtain⟨xn,bj⟩:=fD x.toNat;rw[<-bj]at a8;(have bR:q8 x=.int .u8 (xn:Int):=by rw[bj];rfl);rw[bR,cA]at hc;(have cK:xn<=255:=by have:=x.toNat_lt;omega);obtain⟨b,hb⟩:=fD (decide (y=0));(have fy:((y:Int)==0)=b:=by rw[hb];by_cases h:y=0;(·simp[h]);·simp[h]);rw[<-hb]at aE;clear aD av hP hy bj hb bR;go_wp2_with fail;refine ara (by kernel_rfl) ?_;(repeat(first|(apply gX.want rfl;(·intro w' H V Q' j;have cH:=(H.cell (p:=⟨g,off+(bs.length-1),none⟩) hg).trans hc;go_wp2_with(fail);first|exact aH _ _);(·simp only[aP,ay,aA,aB];rfl))));refine gX.nil ?_;intro w' H;go_wp2_with fail;go_ret;rw[aE.out];exact⟨rfl,ar.trans (H.mono ar.size)⟩
structure jV (D:Nat->Prop) (w w':World):Prop where
  os:w'.os=w.os
  tape:w'.tape=w.tape
  output:w'.output=w.output
  size:w.heap.size<=w'.heap.size
  block: ∀k,k<w.heap.size-> ¬D k->w'.heap[k]? =w.heap[k]?
theorem jV.refl(D:Nat->Prop)(w:World):jV D w w:=⟨rfl,rfl,rfl,aW _,λ_ _ _=>rfl⟩
theorem jV.trans{a b c:World}(h:jV D a b)(k:jV D b c):jV D a c:=⟨k.os.trans h.os,k.tape.trans h.tape,k.output.trans h.output,aG h.size k.size,λi hi hn=>(k.block i (aU hi h.size) hn).trans (h.block i hi hn)⟩
theorem jV.mono{D':Nat->Prop}(h:jV D w w')(d: ∀k,D k->D' k):jV D' w w':=⟨h.os,h.tape,h.output,h.size,λk H hn=>h.block k H (λj=>hn (d k j))⟩
theorem jV.of_below(h:w w')(D:Nat->Prop):jV D w w':=⟨h.os,h.tape,h.output,h.size,λk d _=>h.block k d⟩
theorem jV.DW(h:Stp S w w')(d: ∀k o,(k,o)∈S->D k):jV D w w':=⟨h.os,h.tape,h.output,h.size,λk j hn=>h.block k j (λo hm=>hn (d k o hm))⟩
theorem jV.kJ(h:w.grownBy w' R)(d: ∀k,R=some k->D k):jV D w w':=⟨h.os,h.tape,h.output,h.size,λk j hn=>h.block k j (λe=>hn (d k e.symm))⟩
theorem jV.drew(D:Nat->Prop)(w:World):jV D w w.drew:=jV.of_below (aq3 gY 1) D
theorem jV.below(h:jV D w w')(hB:B<=w.heap.size)(j: ∀k,D k->B<=k):Below B w w':=⟨h.os,h.tape,h.output,h.size,λk d=>h.block k (aU d hB) (λH=>by grind)⟩
theorem fK.ji{t:TypeId}(h:fK w g t cs)(d:jV D w w')(hn: ¬D g):fK w' g t cs:=(d.block g h.lt hn).trans h
theorem aq1.ji{α:Type}{E:arb α}{t:TypeId}{base c:Nat}{xs:List α}(h:aq1 E t w base A c xs)(J:jV D w w')(hn: ∀g,A.map (·.block)=some g-> ¬D g):aq1 E t w' base A c xs:=by
 refine⟨h.1,?_⟩;rcases h.2 with K |⟨g,cap,cur,e,d,j,H⟩;·grind
 ·have hA:A.map (·.block)=some g:=by grind
  exact .inr ⟨g,cap,cur,e,d,fK.ji j J (hn g hA),H⟩
theorem fE.ji{α:Type}{E:arb α}{xs:List α}(h:fE E w A xs)(d:jV D w w')(hn: ∀a,A=some a-> ¬D a.block):fE E w' A xs:=h.keep' d.size (λ_ a e j=>d.block _ j (hn a e))
theorem aq2.ji(h:aq2 w A c bs)(d:jV D w w')(hn: ∀a,A=some a-> ¬D a.block):aq2 w' A c bs:=h.keep' d.size (λ_ a e j=>d.block _ j (hn a e))
theorem Tab.ji(h:Tab w)(d:jV D w w')(j: ¬D 0):Tab w':=h.keep' d.size (λH=>d.block 0 H j)
theorem xM.ji(h:xM w q p bs s A c)(d:jV D w w')(J: ¬D q)(H: ¬D p)(j: ¬D 0)(hA: ∀a,A=some a-> ¬D a.block):xM w' q p bs s A c:={h with blk:=h.blk.ji d J,rd:=⟨h.rd.blk.ji d H,h.rd.bytes.ji d hA,h.rd.far⟩,tab:=h.tab.ji d j}
theorem Own.ji(h:Own w W L)(j:jV D W W')(J: ∀x∈L,¬D x.1)(H: ∀k,D k->w.heap.size<=k):Own w W' L:=⟨h.below.trans (j.below h.below.size H),λx d=>⟨(h.blk x d).1,(h.blk x d).2.ji j (J x d)⟩,h.nodup⟩
def ajv (Df:Nat->Nat->Prop):Nat->List (Value->World->Prop)->Prop
 |_,[]=>True
 |n,Φ::l=>(∀i,i≠n-> ∀v w w',Φ v w->jV (Df i) w w'->Φ v w')/\ajv Df (n+1) l
theorem YG: ∀ {l:List (Value->World->Prop)} {n d:Nat} {Φ:Value->World->Prop},ajv Df n l->l[d]? =some Φ-> ∀i,i≠n+d-> ∀v w w',Φ v w->jV (Df i) w w'->Φ v w'
 | [],_,_,_,_,hj=>by grind
 |Ψ::l,n,0,Φ,h,hj=>by simp only[eP,aO]at hj;subst hj;intro i hi;exact h.1 i hi
 |Ψ::l,n,d+1,Φ,h,hj=>by rw[fB]at hj;intro i hi;exact YG h.2 hj i (by omega)
theorem ZQ{l:List (Value->World->Prop)}(h:ajv Df 0 l): ∀i d (Φ:Value->World->Prop),i≠d->i<l.length->l[d]? =some Φ-> ∀v w w',Φ v w->jV (Df i) w w'->Φ v w':=λi d _ K _ j v w w' J H=>YG h j i (by omega) v w w' J H
def YH (t:TypeId) (D:Nat->Prop) (cs:Array Value):Value->World->Prop:=fun v w=> ∃bv,v=.slice (some ⟨bv,0,none⟩) 1 1/\fK w bv t cs/\ ¬D bv
theorem YH.ji{t:TypeId}(h:YH t D cs v w)(d:jV D w w'):YH t D cs v w':=by obtain⟨bv,e,hB,hn⟩:=h;exact⟨bv,e,hB.ji d hn,hn⟩
theorem JL.ji{α:Type}{E:arb α}{t:TypeId}{xs:List α}(h:JL E t B m R n xs v w)(H:jV D w w')(J: ∀k,D k->k<B):JL E t B m R n xs v w':=by obtain⟨A,c,e,d,hA⟩:=h;exact⟨A,c,e,d.ji H (λg j K=>by have:=(d.gJ g j).1;grind),hA⟩
def Oa (w:World) (bs:List UInt8) (e:Ending) (w':World):Prop:= ∃p A c,e=.returned (.pointer (some ⟨p,0,none⟩))/\w.heap.size<=p/\rY w' p bs 0 A c/\(∀a,A=some a->w.heap.size<=a.block/\a.block<w'.heap.size)/\w w'
theorem agd(h:aq2 w A c bs)(hl:bs.length<=65536):Calls aj 165 #[.slice A bs.length c] w (Oa w bs):=by
 have ag:=Gg bs.length hl;by_cases Q:bs.length=0
 ·obtain rfl:=dw Q;simp only[dU,show((0:Nat):Int)=0 from rfl] at*;have d:Own w _ [_,_]:=Own.iY w 5 308 (xK 0) #[.slice w 0 0,zI];have U:=d.b1.cell;go_enter func165,ntmps165;go_wp2_with(first|(refine wpList_copy_nothing rfl _ _ _ _ rfl 5 dW (by kernel_rfl) _ _ _ _ _ _ rfl rfl rfl ?_));go_ret;refine⟨w.heap.size+1,w.heap.size,0,rfl,by omega,⟨d.b1,⟨Row.nil _ _,aW _,aV _⟩,?_⟩,?_,d.below⟩;·simp
  simp;omega
 ·have d:Own w _ [_,_]:=Own.iY w 5 308 (xK bs.length) #[.slice w bs.length bs.length,zI];have U:=d.b1.cell;have hA:=(h.below d.below);obtain⟨b,off,rfl,hb,_⟩:=h.at_ (k:=0) (by omega);have O:=d.b0;have M:=ah (aq8 bs);have ae: ∀j v,(aq6 bs)[j]? =some v->((w.alloc (.cells (xK bs.length) 5)).alloc (.cells #[.slice w bs.length bs.length,zI] 308)).cell? ((⟨b,off,none⟩:Addr).add j)=some v:=by intro j v Z;(have ac:0<(aq6 bs).length:=by grind);obtain⟨b',ai,e,_,hc⟩:=hA.row ac;cases e;rw[Addr.add_lit];exact hc j v Z
  have aa: ∀v∈aq6 bs,v.oneCell'=true:=tY bs;have V:(aq6 bs).length=Nat.min bs.length bs.length:=by rw[M.out];exact(Nat.min_self _).symm
  have Y:0+(aq6 bs).length<=(xK bs.length).size:=by rw[M.out,vC];omega
  have N:(aq6 bs++(xK bs.length).toList.drop bs.length).toArray=(aq6 bs).toArray:=by rw[List.drop_eq_nil_of_le (by simp[vC]),List.append_nil]
  generalize K:aq6 bs=cl at*;have H:=ah K;have J:=ah N;clear K N;go_enter func165,ntmps165;go_wp2_with(first|(refine wpList_copy_own rfl _ _ _ _ rfl 5 dW (by kernel_rfl) _ _ _ _ _ _ _ rfl rfl (xK bs.length) 5 O cl V ae Y aa ?_));go_ret;have af:=O.row (aq6 bs).toArray;have ad:=d.b1.OW (k:=w.heap.size) (by omega) (aq6 bs).toArray;rw[<-H.out]at J;refine⟨w.heap.size+1,w.heap.size,bs.length,rfl,by omega,?_,?_,?_⟩;·rw[<-H.out,J.out];refine⟨ad,⟨?_,aW _,aG h.cap h.max⟩,?_⟩;(·have:=Row.block af;omega);simp
  ·simp;omega
  ·exact jk d.below ig _
structure F6 (w W:World) (q p:Nat) (bs:List UInt8) (s:Nat × Int) (A:Option Addr) (c:Nat) (L:List Bk):Prop where
  own:Own w W L
  mr:xM W q p bs s A c
  lo:w.heap.size<=q/\w.heap.size<=p
  ne: ∀x∈L,x.1≠q/\x.1≠p/\ ∀a,A=some a->a.block≠x.1
theorem F6.turn(h:F6 w W q p bs s A c L)(j:Stp [(p,some 1),(q,some 1)] W W')(hm:xM W' q p bs s' A c):F6 w W' q p bs s' A c L:=⟨h.own.after j (λk o d=>by simp at d;rcases d with⟨rfl,_⟩ |⟨rfl,_⟩;exact h.lo.2;exact h.lo.1) rfl (λx H=>j.blk (h.own.blk x H).2 (λo hm=>by have:=h.ne x H;grind)),hm,h.lo,h.ne⟩
theorem F6.grow(h:F6 w W q p bs s A c L)(d:W W'):F6 w W' q p bs s A c L:=⟨h.own.grow d,h.mr.below d,h.lo,h.ne⟩
theorem F6.alloc(h:F6 w W q p bs s A c L)(hA: ∀a,A=some a->a.block<W.heap.size)(t:TypeId)(cs:Array Value):F6 w (W.alloc (.cells cs t)) q p bs s A c (L++ [(W.heap.size,t,cs)]):=⟨h.own.alloc t cs _ rfl,h.mr.below jm,h.lo,λx d=>by
 rcases dK.1 d with a |a;·exact h.ne x a
 ·simp at a;subst a;have j:=h.mr.blk.lt;have H:=h.mr.rd.blk.lt;grind⟩
theorem F6.err(h:F6 w W q p bs s A c L)(er:Int):F6 w (W.setCell ⟨q,1,none⟩ er) q p bs (s.1,er) A c L:=by
 have d:=h.mr;have J: ∀k,k≠q->(W.setCell ⟨q,1,none⟩ er).heap[k]? =W.heap[k]? :=λk j=>aN W ⟨q,1,none⟩ _ k j;refine⟨h.own.after (Stp.cell q 1 _) (λk o j=>by simp at j;rw[j.1];exact h.lo.1) rfl (λx H=>(h.own.blk x H).2.far (p:=⟨q,1,none⟩) (h.ne x H).1 _),⟨?_,⟨d.rd.blk.far (λe=>d.ne e.symm) _,d.rd.bytes.apart d.blk (by simp[is8]) (by simp) J,d.rd.far⟩,d.ne,d.far,?_,d.q0,d.p0,d.len,d.inn⟩,h.lo,h.ne⟩;·simpa using d.blk.iV 1 er
 ·exact d.tab.I7 (Stp.cell (w:=W) q 1 _) (by simp[d.q0])
theorem F6.put{t:TypeId}(h:F6 w W q p bs s A c (L1++(g,t,cs)::L2))(J:g≠0)(i:Nat)(v:Value):F6 w (W.setCell ⟨g,i,none⟩ v) q p bs s A c (L1++(g,t,cs.setIfInBounds i v)::L2):=by
 have M:=h.own.at_;have j:=h.ne (g,t,cs) (by simp);have H: ∀k,k≠g->(W.setCell ⟨g,i,none⟩ v).heap[k]? =W.heap[k]? :=λk N=>aN W ⟨g,i,none⟩ _ k N;have K:W.heap.size<=(W.setCell ⟨g,i,none⟩ v).heap.size:=by simp
 have d:=h.mr;refine⟨h.own.with (h.own.below.setCell h.own.lo _) (M.iV i v) H,⟨d.blk.far j.1.symm _,⟨d.rd.blk.far j.2.1.symm _,d.rd.bytes.keep' K (λJ a e _=>H _ (j.2.2 a e)),d.rd.far⟩,d.ne,d.far,d.tab.keep' K (λ_=>H 0 (Ne.symm J)),d.q0,d.p0,d.len,d.inn⟩,h.lo,λx O=>?_⟩;rcases dK.1 O with a |a;·exact h.ne x (by simp[a])
 ·rcases bJ.1 a with rfl |a;·exact j
  ·exact h.ne x (by simp[a])
theorem F6.start{d:World}{t:TypeId}(K:Tab w)(Y:0<w.heap.size)(O:bs.length<=2000)(N:Below (w.alloc (.cells cs t)).heap.size (w.alloc (.cells cs t)) d)(Q:(w.alloc (.cells cs t)).heap.size<=p)(H:rY d p bs 0 A c)(hA: ∀a,A=some a->(w.alloc (.cells cs t)).heap.size<=a.block/\a.block<d.heap.size):F6 w (d.alloc (.cells #[.pointer p,zI] 260)) d p bs (0,0) A c [(w,t,cs)]:=by
 have j:=((Own.jD w t cs).grow N).grow ((aH d d).alloc ig (.cells #[.pointer p,zI] 260));have U:w.heap.size+1<=p:=by simp_all
 have V:=H.blk.lt;exact⟨j,⟨fK.new _ _ _,H.below jm,by omega,λa M=>by grind,K.below j.below,by omega,by omega,by omega,aV _⟩,⟨by omega,by omega⟩,λx J=>by simp at J;subst J;exact⟨by omega,by omega,λa M=>by simp_all;omega⟩⟩
structure kU (W:World) (m:Nat) (f:List Int × Int × List Int) (A1:Option Addr) (c1:Nat) (A3:Option Addr) (c3:Nat):Prop where
  own:fE aq7 W A1 f.1
  may:fE aq7 W A3 f.2.2
  q1:f.1.length<=c1
  q3:f.2.2.length<=c3
  f1: ∀a,A1=some a->m<=a.block
  f3: ∀a,A3=some a->m<=a.block
theorem kU.I7(h:kU W m f A1 c1 A3 c3)(j:Stp S W W')(d: ∀k o,(k,o)∈S->k<m):kU W' m f A1 c1 A3 c3:={h with own:=h.own.I7 j (λa e o hm=>by have:=d _ _ hm;have:=h.f1 a e;omega),may:=h.may.I7 j (λa e o hm=>by have:=d _ _ hm;have:=h.f3 a e;omega)}
theorem kU.below(h:kU W m f A1 c1 A3 c3)(d:W W'):kU W' m f A1 c1 A3 c3:={h with own:=h.own.below d,may:=h.may.below d}
theorem kU.put(h:kU W m f A1 c1 A3 c3)(d:g<m)(i:Nat)(v:Value):kU (W.setCell ⟨g,i,none⟩ v) m f A1 c1 A3 c3:=h.I7 (Stp.cell g i v) (λk o j=>by grind)
theorem F6.ji(h:F6 w W q p bs s A c L)(H:jV D W W')(hm:xM W' q p bs s' A c)(j: ∀x∈L,¬D x.1)(d: ∀k,D k->w.heap.size<=k):F6 w W' q p bs s' A c L:=⟨h.own.ji H j d,hm,h.lo,h.ne⟩
theorem kU.ji{d:World}(K:kU d m f A1 c1 A3 c3)(h:kU W m f A1 c1 A3 c3)(H:jV D W W')(U: ∀k,D k->k<m\/d.heap.size<=k):kU W' m f A1 c1 A3 c3:=by
 have lt: ∀ {l:List Int} {A:Option Addr},fE aq7 d A l->l≠ []-> ∀a,A=some a->a.block<d.heap.size:=by intro l A Q J a e;obtain⟨b,off,e2,j,_⟩:=Q (by cases l with |nil=>grind |cons x l=>simp[arb.flat,aq7]);grind
 exact {h with own:=h.own.keep' H.size (λJ a e j=>H.block _ j (λO=>by have M:=lt K.own J a e;have N:=h.f1 a e;grind)),may:=h.may.keep' H.size (λJ a e j=>H.block _ j (λO=>by have M:=lt K.may J a e;have N:=h.f3 a e;grind))}
def xX (bs:List UInt8) (l:List Int) (s:Nat × Int):List Int × (Nat × Int):=l.foldl (fun r v=>(r.1++ [(nD bs r.2 v:Int)],sN bs r.2 v)) ([],s)
theorem ac8(bs:List UInt8)(s:Nat × Int):xX bs [] s=([],s):=by rfl
theorem ZR(bs:List UInt8)(v:Int)(l:List Int)(s:Nat × Int):xX bs (l++ [v]) s=((xX bs l s).1++ [(nD bs (xX bs l s).2 v:Int)],sN bs (xX bs l s).2 v):=by simp only[xX,List.foldl_append,List.foldl_cons,List.foldl_nil]
theorem Ko(bs:List UInt8)(l:List Int)(s:Nat × Int):(xX bs l s).1.length=l.length:=by
 have h: ∀(l:List Int) (r:List Int × (Nat × Int)),(l.foldl (λr v=>(r.1++ [(nD bs r.2 v:Int)],sN bs r.2 v)) r).1.length=r.1.length+l.length:=by intro l;induction l with|nil=>simp|cons x l d=>grind
 have:=h l ([],s);simpa[xX] using this
def aow (q p:Nat) (bs:List UInt8) (s:Nat × Int) (A:Option Addr) (c:Nat) (n:Int):Value->World->Prop:=fun v w=>v=.int .i64 n/\xM w q p bs s A c
def zL (bs:List UInt8):Int:=nD bs (0,0) 0
def sA (bs:List UInt8):Nat × Int:=if(uo bs (0,0) 0).2=0/\PE (zL bs)=none then((uo bs (0,0) 0).1,4) else uo bs (0,0) 0
def sB (bs:List UInt8):Nat × Int:=if(uo bs (sA bs) 1).2=0/\(nD bs (sA bs) 1:Int)≠(bs.length:Int) then((uo bs (sA bs) 1).1,8) else uo bs (sA bs) 1
def sT (bs:List UInt8):Nat × Int:=sN bs (sB bs) 2
def sH (bs:List UInt8):Nat × Int:=if PW (zL bs)=true then sN bs (sT bs) 9 else sN bs (sN bs (sT bs) 3) 4
def tOf (bs:List UInt8):Int:=nD bs (sB bs) 2
def Kq (bs:List UInt8):Int:=if PW (zL bs)=true then 0 else nD bs (sT bs) 3
def Xe (bs:List UInt8):Int:=if PW (zL bs)=true then nD bs (sT bs) 9 else nD bs (sN bs (sT bs) 3) 4
def aik (id t ack sS:Int) (v p:Value):Array Value:= #[.int .i64 id,.int .i64 t,.int .i64 ack,.int .i64 sS,v,p]
theorem ac9{b:Nat}{t:TypeId}{O Q U V Y Z:Value}(h:fK W b t #[O,Q,U,V,Y,Z])(d:w.heap.size<=b)(hB:w W)(j H J K M N:Value):fK ((((((W.setCell ⟨b,0,none⟩ j).setCell ⟨b,1,none⟩ H).setCell ⟨b,2,none⟩ J).setCell ⟨b,3,none⟩ K).setCell ⟨b,4,none⟩ M).setCell ⟨b,5,none⟩ N) b t #[j,H,J,K,M,N]/\w ((((((W.setCell ⟨b,0,none⟩ j).setCell ⟨b,1,none⟩ H).setCell ⟨b,2,none⟩ J).setCell ⟨b,3,none⟩ K).setCell ⟨b,4,none⟩ M).setCell ⟨b,5,none⟩ N):=⟨(((((h.iV 0 j).iV 1 H).iV 2 J).iV 3 K).iV 4 M).iV 5 N,(((((hB.setCell (p:=⟨b,0,none⟩) d _).setCell (p:=⟨b,1,none⟩) d _).setCell (p:=⟨b,2,none⟩) d _).setCell (p:=⟨b,3,none⟩) d _).setCell (p:=⟨b,4,none⟩) d _).setCell (p:=⟨b,5,none⟩) d _⟩
def xY (bs:List UInt8):Nat->Nat->List Pk->Except Int (List Pk)
 |0,_,acc=> .ok acc
 | k + 1, at_, acc=> if 8 ≤ 8 * bs.length - at_ then (match DU bs at_ with
   | .error er=> .error er
   | .ok (p,e)=>xY bs k e (acc++ [p])) else .ok acc
def wM (bs:List UInt8):List Int × (Nat × Int):=xX bs (nG (zL bs)).1 (sH bs)
def Kr (bs:List UInt8) (ps:List Pk):Ms:=⟨zL bs,tOf bs,Kq bs,Xe bs,(wM bs).1,ps⟩
def arN (bs:List UInt8):Except Int Ms:=if(wM bs).2.2≠0 then .error (wM bs).2.2 else match xY bs bs.length (wM bs).2.1 [] with
 | .error er=> .error er
 | .ok ps=>if zf bs (Kr bs ps)=false then .error 8 else if Ia (nG (zL bs)) (ps.map (·.id))=false then .error 50 else .ok (Kr bs ps)
theorem Ob(h:fK w g 198 #[.int .i64 id,.slice A n c]):fE qJ w (some ⟨g,0,none⟩) [⟨id,A,n,c⟩]:=qw h rfl
theorem Own.TP{t:TypeId}(h:Own w W (L1++(g,t,cs)::L2))(i:Nat)(v:Value):Own w (W.setCell ⟨g,i,none⟩ v) (L1++(g,t,cs.setIfInBounds i v)::L2):=h.with (h.below.setCell h.lo _) (h.at_.iV i v) (λk d=>aN W ⟨g,i,none⟩ _ k d)
structure ajw (w:World) (B:Nat) (A:Option Addr) (x:WV) (p:Pk):Prop where
  id:x.id=p.id
  n:x.n=p.v.length
  c:x.n<=x.c/\x.c<=maxLen
  row:fE aq7 w x.A p.v
  lo: ∀a,x.A=some a->B<=a.block
  off:p.v≠ []-> ∀a,x.A=some a->A.map (·.block)≠some a.block
def rH (w:World) (B:Nat) (A:Option Addr) (xs:List WV) (ps:List Pk):Prop:=xs.length=ps.length/\ ∀(i:Nat) x p,xs[i]? =some x->ps[i]? =some p->ajw w B A x p
theorem rH.ids{w:World}{B:Nat}{A:Option Addr}: ∀ {xs:List WV} {ps:List Pk},rH w B A xs ps->xs.map (·.id)=ps.map (·.id)
 | [],[],_=>rfl
 | [],_::_,h=>by cases h.1
 |_::_,[],h=>by cases h.1
 |x::xs,p::ps,h=>by rw[List.map_cons,List.map_cons,(h.2 0 x p rfl rfl).id,rH.ids (w:=w) (B:=B) (A:=A) (xs:=xs) (ps:=ps) ⟨by simpa using h.1,λi y q j d=>h.2 (i+1) y q j d⟩]
def sU (w:World) (B:Nat) (A:Option Addr) (c:Nat) (ps:List Pk):Prop:= ∃xs:List WV,aq1 qJ 198 w B A c xs/\rH w B A xs ps
theorem sU.nil(w:World)(B:Nat):sU w B none 0 []:=⟨[],aq1.nil _ _,rfl,(λi x p d=>by cases d)⟩
theorem Qb(h:fE aq7 w A l)(j:l≠ []): ∀a,A=some a->a.block<w.heap.size:=by intro a e;obtain⟨b,off,e2,d,_⟩:=h (by cases l with |nil=>grind |cons x l=>simp[arb.flat,aq7]);grind
theorem rH.ji(h:rH w B A xs ps)(j:jV D w w')(N: ∀k,D k->k<B\/w.heap.size<=k):rH w' B A xs ps:=⟨h.1,λi x p K J=>by have d:=h.2 i x p K J;exact {d with row:=d.row.keep' j.size (λQ a e H=>j.block _ H (λO=>by have M:=d.lo a e;grind))}⟩
theorem sU.ji(h:sU w B A c ps)(d:jV D w w')(H: ∀k,D k->k<B\/w.heap.size<=k):sU w' B A c ps:=by obtain⟨xs,j,J⟩:=h;exact⟨xs,j.ji d (λg e K=>by have:=j.gJ g e;grind),J.ji d H⟩
theorem sU.base(h:sU w B A c ps)(d:B'<=B):sU w B' A c ps:=by obtain⟨xs,M,K,H⟩:=h;exact⟨xs,M.mono d,K,λi x p J j=>{H i x p J j with lo:=λa e=>aG d ((H i x p J j).lo a e)}⟩
theorem sU.at_(h:sU w B A c ps):TJ w A ps:=by obtain⟨xs,H,j⟩:=h;exact⟨xs,H.rows,j.ids,j.1,λi x p K J=>by have d:=j.2 i x p K J;exact⟨d.n,d.c.1,d.c.2,d.row⟩⟩
theorem rH.snoc{K:World}{Ak:Option Addr}{p:Pk}(h:rH w B A xs ps)(M:w.grownBy K (A.map (·.block)))(j:A3.map (·.block)=A.map (·.block)\/A3.map (·.block)=some w.heap.size)(V:fE aq7 w Ak p.v)(N: ∀a,Ak=some a->B<=a.block/\A.map (·.block)≠some a.block)(Q:p.v.length<=maxLen):rH K B A3 (xs++ [⟨p.id,Ak,p.v.length,p.v.length⟩]) (ps++ [p]):=by
 have key: ∀x q,ajw w B A x q->ajw K B A3 x q:=λx q H=>{H with row:=H.row.keep' M.size (λhn a e O=>M.block _ O (λe2=>H.off hn a e e2.symm)),off:=λhn a e=>(by
  rcases j with j |j;·rw[j];exact H.off hn a e
  ·rw[j];intro e2;injection e2 with e2;have:=Qb H.row hn a e;omega)}
 have U:=h.1;refine⟨by grind,λi x q d J=>?_⟩;by_cases hi:i<xs.length;·rw[dP hi]at d;rw[dP (by omega)]at J;exact key x q (h.2 i x q d J)
 ·rw[List.getElem?_append_right (by omega)]at d J;rw[U]at d;have Y:i-ps.length=0:=by grind
  rw[Y]at d J;cases d;cases J;exact key _ _ ⟨rfl,rfl,⟨aW _,Q⟩,V,λa e=>(N a e).1,λ_ a e=>(N a e).2⟩
structure uP (w:World) (B:Nat) (m:Ms) (a:Vx):Prop where
  v:aq1 aq7 3 w B a.Av a.cv m.v
  p:sU w B a.Ap a.cp m.p
  vl:m.v.length<=20
  pl:m.p.length<=2000
  pv: ∀p∈m.p,p.v.length<=8184
theorem uP.is_{m:Ms}{a:Vx}(h:uP w B m a):P8 w m a:=⟨h.v.rows,h.p.at_,h.v.cap.1,by obtain⟨xs,d,H⟩:=h.p;rw[<-H.1];exact d.cap.1,aG h.vl (by decide),aG h.pl (by decide),λp j=>aG (h.pv p j) (by decide)⟩
theorem uP.ji{m:Ms}{a:Vx}(h:uP w B m a)(d:jV D w w')(j: ∀k,D k->k<B\/w.heap.size<=k):uP w' B m a:={h with v:=h.v.ji d (λg e H=>by have:=h.v.gJ g e;grind),p:=h.p.ji d j}
theorem uP.base{m:Ms}{a:Vx}(h:uP w B m a)(d:B'<=B):uP w B' m a:={h with v:=h.v.mono d,p:=h.p.base d}
theorem xg(W:World)(b i:Nat)(v:Value):jV (λk=>k=b) W (W.setCell ⟨b,i,none⟩ v):=jV.DW (Stp.cell b i v) (λk o hm=>by grind)
theorem aox(W:World)(b:Nat)(d j H J K M:Value):jV (λk=>k=b) W ((((((W.setCell ⟨b,0,none⟩ d).setCell ⟨b,1,none⟩ j).setCell ⟨b,2,none⟩ H).setCell ⟨b,3,none⟩ J).setCell ⟨b,4,none⟩ K).setCell ⟨b,5,none⟩ M):=(((((xg W b 0 d).trans (xg _ b 1 j)).trans (xg _ b 2 H)).trans (xg _ b 3 J)).trans (xg _ b 4 K)).trans (xg _ b 5 M)
def ajx (w:World) (R:Except Int Ms) (e:Ending) (w':World):Prop:=w w'/\match R with
 | .error er=>e=.returned (.tuple #[.agg gk,.int .i64 er])
 | .ok m=> ∃a,e=.returned (.tuple #[.agg (oC m a),.int .i64 0])/\uP w' w m a
theorem arY{v:Int}(h:(uo bs s v).2=0):s.2=0/\((uo bs s v).1:Int)=s.1+fQ v:=by
 unfold uo at h ⊢;by_cases d:s.2=0;·rw[if_pos d]at h ⊢;simp only at h ⊢;unfold xH;rw[if_pos h];have:=lq v;omega
 grind
theorem Kt{v:Int}(h:(sN bs s v).2=0):s.2=0/\((sN bs s v).1:Int)=s.1+fQ v:=by
 unfold sN at h ⊢;split at h;·cases h
 ·rename_i hc;rw[if_neg hc];exact arY h
theorem YI(bs:List UInt8): ∀(l:List Int) (r:List Int × (Nat × Int)),(l.foldl (λr v=>(r.1++ [(nD bs r.2 v:Int)],sN bs r.2 v)) r).2.2=0->r.2.2=0/\((l.foldl (λr v=>(r.1++ [(nD bs r.2 v:Int)],sN bs r.2 v)) r).2.1:Int)=r.2.1+yZ l
 | [],r,h=>⟨h,by rfl⟩
 |x::l,r,h=>by rw[List.foldl_cons]at h ⊢;obtain⟨j,H⟩:=YI bs l _ h;obtain⟨J,d⟩:=Kt j;refine⟨J,?_⟩;rw[H];simp only at d ⊢;rw[d];simp only[yZ,List.map_cons,List.sum_cons];omega
theorem agf(h:(wM bs).2.2=0):((wM bs).2.1:Int)=arU (zL bs):=by
 unfold wM xX at h ⊢;obtain⟨d,M⟩:=YI bs _ _ h;rw[M];simp only at d ⊢;have key:(sT bs).2=0/\((sH bs).1:Int)=(sT bs).1+(if PW (zL bs)=true then fQ 9 else fQ 3+fQ 4):=by
  unfold sH at d ⊢;split at d;·rename_i j;rw[if_pos j,if_pos j];exact Kt d
  ·rename_i j;rw[if_neg j,if_neg j];obtain⟨a,b⟩:=Kt d;obtain⟨c,V⟩:=Kt a;omega
 obtain⟨N,O⟩:=key;obtain⟨H,Q⟩:=Kt (show(sN bs (sB bs) 2).2=0 from N);have K:(sA bs).2=0/\((sB bs).1:Int)=(sA bs).1+fQ 1:=by
  unfold sB at H ⊢;split at H;·cases H
  ·rename_i hc;rw[if_neg hc];exact arY H
 have U:((sA bs).1:Int)=fQ 0:=by
  have J:=K.1;unfold sA at J ⊢;split at J;·cases J
  ·rename_i hc;rw[if_neg hc];have:=(arY J).2;omega
 rw[O,show sT bs=sN bs (sB bs) 2 from rfl,Q,K.2,U];unfold arU rG H9;rw[eX,List.sum_append];show _=_+(_+yZ _);split <;> simp <;> omega
theorem YJ{at_:Nat}(h:DU bs at_=.error er):er≠0:=by
 unfold DU at h;cases d:zK (bs.drop (at_ / 8)) 5 ⟨at_ % 8,[],0⟩ with
 |error x=>rw[d]at h;cases h;exact WZ d
 |ok J=>
  obtain⟨id,s⟩:=J;rw[d]at h;simp only at h;cases H:lu id with
  |none=>grind
  |some q=>
   rw[H]at h;simp only at h;cases j:mV (zK (bs.drop (at_ / 8))) q 0 {s with v:= []} with
   |error x=>rw[j]at h;cases h;exact J5 _ _ _ _ j
   |ok s'=>grind
structure uN (bs:List UInt8) (at0 at_:Nat) (acc:List Pk):Prop where
  inn:at_<=8*bs.length
  fuel: ∃k,xY bs bs.length at0 []=xY bs k at_ acc/\8*bs.length<=at_+8*k+7
  wid:oP acc=(at_:Int)-at0
  vl: ∀p∈acc,p.v.length<=8184
  len:8*acc.length+at0<=at_
theorem uN.start{at0:Nat}(h:at0<=8*bs.length):uN bs at0 at0 []:=⟨h,⟨bs.length,rfl,by omega⟩,by simp[oP],(λp d=>by cases d),by simp⟩
theorem uN.step{at0 at_ e:Nat}{p:Pk}(h:uN bs at0 at_ acc)(M:8<=8*bs.length-at_)(j:DU bs at_=.ok (p,e)):uN bs at0 e (acc++ [p])/\at_+8<=e:=by
 obtain⟨H,J,K,O,Q⟩:=N8 j h.inn;obtain⟨k,N,U⟩:=h.fuel;refine⟨⟨K,?_,?_,λq d=>?_,by rw[bC];have:=h.len;grind⟩,J⟩;·cases k with|zero=>omega|succ k=>rw[xY,if_pos M,j]at N;grind
 ·have e2:oP (acc++ [p])=oP acc+CY p:=by simp[oP]
  rw[e2,h.wid,H];omega
 ·rcases dK.1 d with d |d;·exact h.vl q d
  grind
theorem uN.bad{at0 at_:Nat}(h:uN bs at0 at_ acc)(j:8<=8*bs.length-at_)(H:DU bs at_=.error er):xY bs bs.length at0 []=.error er:=by obtain⟨k,d,J⟩:=h.fuel;cases k with|zero=>omega|succ k=>rw[xY,if_pos j,H]at d;exact d
theorem uN.done{at0 at_:Nat}(h:uN bs at0 at_ acc)(d: ¬8<=8*bs.length-at_):xY bs bs.length at0 []=.ok acc:=by obtain⟨k,j,H⟩:=h.fuel;rw[j];cases k with|zero=>rw[xY]|succ k=>rw[xY,if_neg d]
end Go.Proofs.YthnmgjngniciaaaGreatDoor
