/- Parts. -/
import Derived.Test.YthnmgjngniciaaaGreatDoorM23
import Derived.Test.YthnmgjngniciaaaGreatDoorM01
import Derived.Test.YthnmgjngniciaaaGreatDoorM11
import Derived.Test.YthnmgjngniciaaaGreatDoorM09
import Derived.Test.YthnmgjngniciaaaGreatDoorM03
import Derived.Test.YthnmgjngniciaaaGreatDoorM08
set_option linter.all false
set_option maxHeartbeats 16000000
set_option maxRecDepth 8000
open BitVec renaming ofNat→bT
open Bool renaming false_eq_true→bU
open List renaming getElem?_cons_zero→eP,length_append→bC,length_cons→bK,map→bV,setIfInBounds_toArray→ay,set_cons_succ→aB,set_cons_zero→aA
open Nat renaming le_refl→aW,reduceAdd→aT,zero_add→aJ
open Option.some renaming injEq→aO
namespace Go.Proofs.YthnmgjngniciaaaGreatDoor
open Go.RowKit Go.Shelf Tryz
open Act renaming put→aP
open Addr.mk renaming injEq→cZ
open Below renaming heap_setCell→aN,refl→aH
open Go.Lib renaming hid→ah
open Region renaming binds→aC,wanted→aF
open Tryz renaming prog→aj,underlying136→bF
open Value renaming oneCell'→aK
open Value.slice renaming injEq→dV
variable{cells:Array Value}{k:K4}{bs:List UInt8}{base c g:Nat}{A:Option Addr}{p:P7}{v:Value}{W W' w w':World}
set_option maxRecDepth 16000
theorem YZ(kind dir fG:Int)(a b:BitVec 32)(body:List UInt8)(je:BitVec 64)(A:Option Addr)(c:Nat)(w:World)(hB:aq2 w A c body)(d:body.length<=2000):Calls aj 150 #[.agg #[kind,dir,fG,q32 a,q32 b,.slice A body.length c,q64 je]] w λe w'=> ∃v,e=.returned v/\fV w (arx ⟨kind,dir,fG,a,b,body,je⟩) v w'/\w w':=Xy ⟨kind,dir,fG,a,b,body,je⟩ A body.length c w rfl hB d
def agG (x:BitVec 64):BitVec 32:=(x >>> 32).setWidth 32
def agH (x:BitVec 64):BitVec 32:=x.setWidth 32
theorem adR(x:BitVec 64):(x.setWidth 32).toNat=x.toNat % 4294967296:=by simp
theorem be8(x:BitVec 64):be 4 (agG x).toNat++be 4 (agH x).toNat=be 8 x.toNat:=by
 unfold agG agH;have h:=x.isLt;rw[show(8:Nat)=4+4 from rfl,Xu,<-adI 4 x.toNat,adR,adR,BitVec.toNat_ushiftRight,Nat.shiftRight_eq_div_pow];have e:x.toNat / 2 ^ 32 % 4294967296=x.toNat / 256 ^ 4:=by simp;omega
 rw[e]
theorem GV(p:P7):(nP p).length<=14+p.body.length:=by
 unfold nP;simp only[bC,iC];have h1:(if p.kind<=3 then be 4 p.a.toNat else []).length<=4:=by split <;> simp[iC]
 have d:(if 2<=p.kind then be 4 p.b.toNat else []).length<=4:=by split <;> simp[iC]
 have j:(if p.kind=5 then be 2 p.body.length else []).length<=2:=by split <;> simp[iC]
 omega
theorem fV.nil:fV base [] (.slice none 0 0) w:=⟨none,0,rfl,aq2.nil _,λh=>absurd h (by simp)⟩
theorem akb(kind dir fG:Int)(a b:BitVec 32)(body:List UInt8)(je:BitVec 64)(A:Option Addr)(c:Nat)(w:World)(H:body.length<=2000)(hm:may ⟨kind,dir,fG,a,b,body,je⟩=false):Calls aj 103 #[.agg #[kind,dir,fG,q32 a,q32 b,.slice A body.length c,q64 je]] w λe w'=>e=.returned (.tuple #[nS,(1:Int)])/\w w':=by have d:=λW=>Qs kind dir fG a b body je A c W (by omega);rw[hm]at d;go_enter func103,ntmps103;go_wp2_with(first|((with_reducible refine(d _).mono ?_);rintro e J⟨rfl,j⟩));go_ret2;exact⟨rfl,iP j⟩
theorem amL(dir fG:Int)(a b:BitVec 32)(body:List UInt8)(je:BitVec 64)(A:Option Addr)(c:Nat)(w:World)(hB:aq2 w A c body)(K:body.length<=2000)(hm:may ⟨1,dir,fG,a,b,body,je⟩=true):Calls aj 103 #[.agg #[(1:Int),dir,fG,q32 a,q32 b,.slice A body.length c,q64 je]] w λe w'=> ∃v,e=.returned (.tuple #[v,zI])/\fV w (enc ⟨1,dir,fG,a,b,body,je⟩) v w'/\w w':=by
 have e:enc ⟨1,dir,fG,a,b,body,je⟩=arx ⟨1,dir,fG,a,b,body,je⟩:=by simp[enc,arx,hm]
 rw[e];have H:=λW=>Qs 1 dir fG a b body je A c W (by omega);have M:=λW (h:aq2 W A c body)=>YZ 1 dir fG a b body je A c W h K;rw[hm]at H;go_enter func103,ntmps103;go_wp2_with(first|((with_reducible refine(H _).mono ?_);rintro e j⟨rfl,d⟩;obtain⟨O,_⟩:=qG d;have Q:w.heap.size<j.heap.size:=by have:=d.size;simp at this;omega)|((with_reducible refine(M _ (hB.below (iP d))).mono ?_);rintro e j⟨v,rfl,N,J⟩));go_ret2;exact⟨_,rfl,N.mono (by omega),gZ (iP d) J⟩
theorem amM(kind dir fG:Int)(a b:BitVec 32)(body:List UInt8)(je:BitVec 64)(A:Option Addr)(c:Nat)(w:World)(hB:aq2 w A c body)(Y:body.length<=2000)(hm:may ⟨kind,dir,fG,a,b,body,je⟩=true)(J:kind≠1):Calls aj 103 #[.agg #[.int .i64 kind,.int .i64 dir,.int .i64 fG,q32 a,q32 b,.slice A body.length c,q64 je]] w λe w'=> ∃v,e=.returned (.tuple #[v,.int .i64 0])/\fV w (enc ⟨kind,dir,fG,a,b,body,je⟩) v w'/\w w':=by
 have e:enc ⟨kind,dir,fG,a,b,body,je⟩= [arx ⟨kind,dir,fG,a,b,body,je⟩,be 4 (agG je).toNat,be 4 (agH je).toNat].flatten:=by
  have h1:1<kind:=by have:=FH.1 hm;unfold KW at this;simp only at this;omega
  simp only[List.flatten_cons,List.flatten_nil,List.append_nil];rw[be8];simp[enc,arx,hm,h1]
 rw[e];clear e;have Z:=λW=>Qs kind dir fG a b body je A c W (by omega);have ai:=λW (h:aq2 W A c body)=>YZ kind dir fG a b body je A c W h Y;have V:(arx ⟨kind,dir,fG,a,b,body,je⟩).length<=2014:=by have:=GV ⟨kind,dir,fG,a,b,body,je⟩;simp[arx,hm];simp at this;omega
 rw[hm]at Z;clear hm;generalize ae:arx ⟨kind,dir,fG,a,b,body,je⟩=T at*;clear ae;replace Y:=ah Y;replace V:=ah V;go_enter func103,ntmps103;go_wp2_with(first|(go_at_call 149;(with_reducible refine(Z _).mono ?_);rintro e O⟨rfl,H⟩;obtain⟨hc,_⟩:=qG H;have hz:w.heap.size<O.heap.size:=by have:=H.size;simp at this;omega));have Q:=iP H;have ad:aq2 O A c body:=hB.below Q;have af:(kind==1)=false:=by simpa using J
 simp only[af];have am:=V.out;apply iM;case lX=>intro u;simp only[bV,aq9,aP,ay,aA,aB,aT,aJ];rfl
 case hm=>kernel_rfl
 case hB=>kernel_rfl
 case hap=>kernel_rfl
 repeat(first|(apply Lex.is;·(intro u w' J d;simp[fH,aC,Is]at d;refine fF ?_ ?_;(·first|rfl|(simp[aF,yielded,d];done));intro K j;obtain⟨an,_⟩:=qG J;go_wp2_with fail;(try simp only[d]at j);refine j _ _ ?_ rfl;exact aH _ _))|(apply Lex.word (fV O T) (λ_ _ _ h H=>h.grow H);·(intro u w' J d;simp[fH,aC,Is]at d;refine fF ?_ ?_;(·first|rfl|(simp[aF,yielded,d];done));intro K j;go_wp2_with(go_at_call 150;(with_reducible refine(ai _ (ad.below J)).mono ?_);rintro e w3⟨v3,rfl,N,M⟩);(try simp only[d]at j);exact j _ _ M (N.mono J.size)))|(apply Lex.word (Bg _) (λ_ _ _ h H=>h.grow H);·(intro u w' J d;simp[fH,aC,Is]at d;refine fF ?_ ?_;(·first|rfl|(simp[aF,yielded,d];done));intro K j;go_wp2_with(go_at_call 151;(with_reducible refine(Qq _ _).mono ?_);rintro e w3⟨v3,rfl,N,M⟩);(try simp only[d]at j);exact j _ _ M N))|(apply Lex.word (zi _) (λ_ _ _ h H=>h.grow H);·(intro u w' J d;simp[fH,aC,Is]at d;refine fF ?_ ?_;(·first|rfl|(simp[aF,yielded,d];done));intro K j;obtain⟨⟨A0,c0,U,ac,_⟩,⟨ak,d1,h1⟩,⟨al,d2,h2⟩⟩:=d;go_wp2_with fail;simp only[U,d1,d2]at j;exact j _ _ jm (Xx ⟨_,_,rfl,ac⟩ (rM h1 (iC _ _)) (rM h2 (iC _ _)))))|(apply Lex.word (fV O _) (λ_ _ _ h H=>h.grow H);·(intro u w' J d;simp[fH,aC]at d;refine fF ?_ ?_;(·first|rfl|(simp[aF,yielded];done));intro K j;obtain⟨⟨gp,vs,U,ZW,hP⟩,_⟩:=d;go_wp2_with(go_at_call 105;refine(BZ _ gp _ vs _ rfl ZW hP (by simp) (by simp) (by simp[Lib.lens,iC] <;> omega)).mono ?_;rintro e w3⟨v3,rfl,N,M⟩);(try simp only[U]at j);exact j _ _ M (N.mono J.size)))|(apply Lex.word (fV O _) (λ_ _ _ h H=>h.grow H);·(intro u w' J d;simp[fH,aC]at d;refine fF ?_ ?_;(·first|rfl|(simp[aF,yielded];done));intro K j;go_wp2_with fail;first|exact j _ _ gY d|exact j _ _ gY d.1)))
 apply Lex.nil;intro u w' J d;simp only[gQ]at d;have ag:=d 13 _ rfl;have aa:=d 14 _ rfl;clear d;simp only[Is]at aa;rw[aa];go_wp2_with fail;go_ret2;exact⟨_,rfl,by simpa[agG,agH] using ag.mono (base':=w.heap.size) (by have:=Q.size;omega),gZ Q J⟩
theorem adS(p:P7)(A:Option Addr)(n c:Nat)(w:World)(hn:n=p.body.length)(hB:aq2 w A c p.body)(d:p.body.length<=2000):Calls aj 103 #[.agg #[p.kind,p.dir,p.fG,q32 p.a,q32 p.b,.slice A n c,q64 p.je]] w λe w'=> ∃v,e=.returned (.tuple #[v,(if may p then 0 else 1:Int)])/\fV w (enc p) v w'/\w w':=by
 subst hn;obtain⟨kind,dir,fG,a,b,body,je⟩:=p;simp only at d hB ⊢;cases hm:may ⟨kind,dir,fG,a,b,body,je⟩ with
 |false=>refine(akb kind dir fG a b body je A c w d hm).mono ?_;rintro e w'⟨rfl,H⟩;exact⟨_,rfl,by simp only[enc,hm];exact fV.nil,H⟩
 |true=>
  by_cases j:kind=1;·subst j;exact amL dir fG a b body je A c w hB d hm
  ·exact amM kind dir fG a b body je A c w hB d hm j
theorem D8(A:Option Addr)(n c:Nat)(l:List UInt8)(w:World)(g:Nat)(hn:n=l.length)(d:g=w.heap.size)(hB:aq2 w A c l)(j:l.length<=65536):Calls aj 105 #[.slice g 1 1] (w.alloc (.cells #[.slice A n c] 45)) λe w'=> ∃v,e=.returned v/\fV (w.alloc (.cells #[.slice A n c] 45)).heap.size l v w'/\Below (w.alloc (.cells #[.slice A n c] 45)).heap.size (w.alloc (.cells #[.slice A n c] 45)) w':=by subst hn;have:=BZ [l] g 1 #[.slice A l.length c] (w.alloc (.cells #[.slice A l.length c] 45)) rfl (fK.newAt _ _ _ _ d) ⟨⟨A,c,rfl,hB.alloc _⟩,trivial⟩ (by simp) (by simp) (by simp[Lib.lens];omega);simpa only[List.flatten_cons,List.flatten_nil,List.append_nil] using this
set_option maxRecDepth 8000
def Ou (base:Nat) (p:P7):Value->World->Prop:=fun v w=> ∃bv,v=.agg #[.int .i64 p.kind,.int .i64 p.dir,.int .i64 p.fG,q32 p.a,q32 p.b,bv,q64 p.je]/\fV base p.body bv w
def Ov (base:Nat):Value->World->Prop:=fun v w=> ∃g,v=.pointer (some ⟨g,0,none⟩)/\base<=g/\fK w g 136 gi
theorem Ov.grow(h:Ov base v w)(d:w w'):Ov base v w':=by obtain⟨g,e,j,hB⟩:=h;exact⟨g,e,j,hB.below d hB.lt⟩
theorem fV.kept(h:fV base bs v w)(U:w.heap.size<=w'.heap.size)(M: ∀k,base<=k->k<w.heap.size->w'.heap[k]? =w.heap[k]?):fV base bs v w':=by
 obtain⟨A,c,e,hB,K⟩:=h;refine⟨A,c,e,⟨λh0=>?_,hB.cap,hB.max⟩,λh0=>?_⟩
 ·have h1:0<bs.length:=by rwa [aq8]at h0
  obtain⟨g,rfl,d,j,J⟩:=K h1;obtain⟨b,off,H,Q,hc⟩:=hB.row h0;simp only[aO,cZ,and_true]at H;obtain⟨rfl,rfl⟩:=H;exact⟨g,0,rfl,by omega,λN u O=>(World.cell?_of_block (a:=⟨g,0+N,none⟩) (M g d j)).trans (hc N u O)⟩
 ·obtain⟨g,h1,d,j,J⟩:=K h0;exact⟨g,h1,d,by omega,λi hi=>(World.frozen?_of_block (a:=⟨g,i,none⟩) (M g d j)).trans (J i hi)⟩
theorem fV.setCell(h:fV base bs v w){p:Addr}(j:p.block<base)(u:Value):fV base bs v (w.setCell p u):=h.kept (by simp) λk d _=>aN w p u k (by omega)
structure wQ (w W:World) (g:Nat) (cells:Array Value):Prop where
  Ep:fK W g 136 cells
  res:fK W w 136 gi
  below:w W
  gt:w.heap.size<g
theorem wQ.set(h:wQ w W g cells)(i:Nat)(u:Value):wQ w (W.setCell ⟨g,i,none⟩ u) g (cells.setIfInBounds i u):=⟨h.Ep.iV i u,h.res.far (p:=⟨g,i,none⟩) (by have:=h.gt;grind) u,h.below.setCell (p:=⟨g,i,none⟩) (by have:=h.gt;grind) u,h.gt⟩
theorem wQ.grow(h:wQ w W g cells)(d:W W'):wQ w W' g cells:=⟨h.Ep.below d h.Ep.lt,h.res.below d h.res.lt,h.below.trans (d.mono h.below.size),h.gt⟩
theorem wQ.alloc(h:wQ w W g cells)(o:Obj):wQ w (W.alloc o) g cells:=h.grow (gY.alloc ig o)
theorem wQ.bytes(h:wQ w W g cells)(hB:aq2 w A c bs):aq2 W A c bs:=hB.below h.below
theorem akc(l:List UInt8):num l<256 ^ l.length:=by induction l with|nil=>simp[num]|cons b l d=>rw[Us,bK,Nat.pow_succ];have:=b.toNat_lt;have h1:b.toNat*256 ^ l.length<=255*256 ^ l.length:=Nat.mul_le_mul_right _ (by omega);omega
theorem aoQ(l:List UInt8)(h:l.length=3):(bT 64 (num l)).toNat=num l/\num l<16777216:=by have:=akc l;grind
theorem adT(n:Nat):(bT 64 n).setWidth 32=bT 32 n:=by simp
theorem adU(bs:List UInt8)(h8:8<=bs.length)(b0:UInt8)(V:b0=nth bs 0)(T X:BitVec 64)(Q:T.toNat=num ((bs.drop 1).take 3))(U:X=bT 64 (num ((bs.drop 4).take 4)))(d j H:Int)(Z:(b0.toNat:Int) / 2=d)(Y:(b0.toNat:Int) % 2=j)(ht:(T.toNat:Int)=H):Bf bs=if d=1 then some ⟨1,j,H,X.setWidth 32,0,[],0⟩ else if(bs.drop 8).length<8 then none else if d=2\/d=3 then some ⟨d,j,H,X.setWidth 32,bT 32 (num (((bs.drop 8).take ((bs.drop 8).length-8)).take (min 4 ((bs.drop 8).take ((bs.drop 8).length-8)).length))),[],bT 64 (num ((bs.drop 8).drop ((bs.drop 8).length-8)))⟩ else if d=5 then some ⟨5,j,H,0,X.setWidth 32,((bs.drop 8).take ((bs.drop 8).length-8)).drop (min 2 ((bs.drop 8).take ((bs.drop 8).length-8)).length),bT 64 (num ((bs.drop 8).drop ((bs.drop 8).length-8)))⟩ else if d=6 then some ⟨6,j,H,0,X.setWidth 32,(bs.drop 8).take ((bs.drop 8).length-8),bT 64 (num ((bs.drop 8).drop ((bs.drop 8).length-8)))⟩ else some ⟨d,j,H,0,0,[],bT 64 (num ((bs.drop 8).drop ((bs.drop 8).length-8)))⟩:=by
 unfold Bf;rw[if_neg (by omega)];unfold KX;subst V U Y ht Z;rw[Q,adT];generalize nth bs 0=x;have J:((x.toNat:Int) / 2=1)<->(x.toNat / 2=1):=by omega
 have K:((x.toNat:Int) / 2=2)<->(x.toNat / 2=2):=by omega
 have M:((x.toNat:Int) / 2=3)<->(x.toNat / 2=3):=by omega
 have N:((x.toNat:Int) / 2=5)<->(x.toNat / 2=5):=by omega
 have O:((x.toNat:Int) / 2=6)<->(x.toNat / 2=6):=by omega
 simp only[J,K,M,N,O,Int.natCast_ediv,Int.natCast_emod];rfl
theorem aau(A:Option Addr)(c:Nat)(bs:List UInt8)(w:World)(hB:aq2 w A c bs)(H:bs.length<8):Calls aj 59 #[.slice A bs.length c] w λe w'=>e=.returned (.tuple #[.agg gi,(8:Int)])/\w w':=by
 have j:(bs.length:Int)<8:=by omega
 go_enter func59,ntmps59;go_wp2_with fail;have d:=fK.new w 136 gi;have hc:=d.cell;simp only[List.getElem?_toArray,eP]at hc;refine bodyPost_ret (v:=.tuple #[.agg gi,(8:Int)]) (by simp[results,results59,go_sem,hc]) rfl ⟨rfl,gY.alloc ig _⟩
set_option maxRecDepth 8000
def jA (k:K4) (p:P7):P7:=if may p=true/\p.kind≠1 then⟨p.kind,p.dir,p.fG,p.a,p.b,p.body,Mac k (arx p)⟩ else p
structure rO (w W:World) (k:K4) (cells:Array Value):Prop where
  key:fK W w 32 #[q32 k.k0,q32 k.k1,q32 k.k2,q32 k.k3]
  Ep:fK W (w.heap.size+1) 136 cells
  res:fK W (w.heap.size+1+1) 136 gi
  below:w W
theorem rO.set(h:rO w W k cells)(i:Nat)(u:Value):rO w (W.setCell ⟨w.heap.size+1,i,none⟩ u) k (cells.setIfInBounds i u):=⟨h.key.far (p:=⟨w.heap.size+1,i,none⟩) (by simp) u,h.Ep.iV i u,h.res.far (p:=⟨w.heap.size+1,i,none⟩) (by simp) u,h.below.setCell (p:=⟨w.heap.size+1,i,none⟩) (by simp) u⟩
theorem rO.grow(h:rO w W k cells)(d:W W'):rO w W' k cells:=⟨h.key.below d h.key.lt,h.Ep.below d h.Ep.lt,h.res.below d h.res.lt,h.below.trans (d.mono h.below.size)⟩
theorem rO.alloc(h:rO w W k cells)(o:Obj):rO w (W.alloc o) k cells:=h.grow (gY.alloc ig o)
theorem rO.bytes(h:rO w W k cells)(hB:aq2 w A c bs):aq2 W A c bs:=hB.below h.below
theorem Qv(k:K4)(kind dir fG:Int)(a b:BitVec 32)(body:List UInt8)(je:BitVec 64)(A:Option Addr)(n c:Nat)(w:World)(hn:body.length=n)(hB:aq2 w A c body)(aD:body.length<=2000):Calls aj 110 #[.agg #[q32 k.k0,q32 k.k1,q32 k.k2,q32 k.k3],.agg #[kind,dir,fG,q32 a,q32 b,.slice A n c,q64 je]] w λe w'=> ∃v,e=.returned v/\Ou w (jA k ⟨kind,dir,fG,a,b,body,je⟩) v w'/\w w':=by
 obtain⟨q,hq⟩:=fD (jA k ⟨kind,dir,fG,a,b,body,je⟩);rw[<-hq];have ap: ∀W Ab cb,Calls aj 149 #[.agg #[kind,dir,fG,q32 a,q32 b,.slice Ab n cb,q64 je]] W λe w'=>e=.returned (.bool (may ⟨kind,dir,fG,a,b,body,je⟩))/\W w':=λW Ab cb=>Uu ⟨kind,dir,fG,a,b,body,je⟩ Ab n cb W hn.symm (by show body.length<=_;omega);have aR: ∀W Ab cb,aq2 W Ab cb body->Calls aj 150 #[.agg #[kind,dir,fG,q32 a,q32 b,.slice Ab n cb,q64 je]] W λe w'=> ∃v,e=.returned v/\fV W (arx ⟨kind,dir,fG,a,b,body,je⟩) v w'/\W w':=λW Ab cb h=>Xy ⟨kind,dir,fG,a,b,body,je⟩ Ab n cb W hn.symm h aD;have a1:=GV ⟨kind,dir,fG,a,b,body,je⟩;have au:(arx ⟨kind,dir,fG,a,b,body,je⟩).length<=65536:=by
  unfold arx;split;·simp at a1;omega
  ·simp
 have ae: ¬(may ⟨kind,dir,fG,a,b,body,je⟩=true/\kind≠1)->q=⟨kind,dir,fG,a,b,body,je⟩:=λh=>by rw[hq];unfold jA;rw[if_neg h]
 have af:(may ⟨kind,dir,fG,a,b,body,je⟩=true/\kind≠1)->q=⟨kind,dir,fG,a,b,body,Mac k (arx ⟨kind,dir,fG,a,b,body,je⟩)⟩:=λh=>by rw[hq];unfold jA;rw[if_pos h]
 generalize bh:may ⟨kind,dir,fG,a,b,body,je⟩=mb at*;generalize bi:arx ⟨kind,dir,fG,a,b,body,je⟩=K at*;have aE:body.length<=65536:=by omega
 go_enter func110,ntmps110;go_wp2_with fail;obtain⟨w1,ak⟩:=fD (((w.alloc (.cells #[q32 k.k0,q32 k.k1,q32 k.k2,q32 k.k3] 32)).alloc (.cells #[kind,dir,fG,q32 a,q32 b,.slice A n c,q64 je] 136)).alloc (.cells gi 136));rw[<-ak];have aq:w1.heap.size=w.heap.size+1+1+1:=by rw[ak];simp
 have S1:rO w w1 k #[kind,dir,fG,q32 a,q32 b,.slice A n c,q64 je]:=by rw[ak];exact⟨((fK.new _ _ _).alloc _).alloc _,(fK.newAt _ _ _ _ (by simp)).alloc _,fK.newAt _ _ _ _ (by simp),(jm.alloc (by simp) _).alloc (by simp;omega) _⟩
 (with_reducible refine(D8 A n c body w1 _ hn.symm aq.symm (S1.bytes hB) aE).mono ?_);rintro e w4⟨v4,rfl,Q,am⟩;have S4:=(S1.alloc _).grow am;replace Q:=Q.mono (base':=w.heap.size+1+1+1) (by simp;omega);obtain⟨Ab,cb,rfl,aa,_⟩:=id Q;rw[hn]at Q;have ai:=Q.setCell (p:=⟨w.heap.size+1,5,none⟩) (by show w.heap.size+1<_;omega) (.slice Ab n cb);have S5:rO w _ k #[kind,dir,fG,q32 a,q32 b,.slice Ab n cb,q64 je]:=S4.set 5 (.slice Ab n cb);clear aa am S1 aq;have bb:=S4.Ep.cell;have bd:=S4.Ep.frozen;obtain⟨a6,ba,ev,aa,_⟩:=id ai;simp only[dV]at ev;obtain⟨rfl,hx,rfl⟩:=ev;clear hx;generalize bj:w4.setCell ⟨w.heap.size+1,5,none⟩ (.slice Ab n cb)=w5 at*;by_cases N:mb=true/\kind≠1
 ·obtain⟨rfl,O⟩:=N;have ag:=ah (af ⟨rfl,O⟩);clear ae af;go_wp2_with(first|((with_reducible refine(ap _ Ab cb).mono ?_);rintro e w6⟨rfl,M⟩;have j:=S5.grow M;have U:=ai.grow M;have Xz:=aa.below M;have fJ:=j.Ep.cell;have ac:=j.below;have Uf:=j.res)|(with_reducible refine gy rfl 136 (.tmp 3) rfl (w.heap.size+1) rfl 136 #[kind,dir,fG,q32 a,q32 b,.slice Ab n cb,q64 je] _ S5.Ep bF rfl (by kernel_rfl) ?_)|(with_reducible refine gy rfl 136 (.tmp 3) rfl (w.heap.size+1) rfl 136 #[kind,dir,fG,q32 a,q32 b,.slice Ab n cb,q64 je] _ j.Ep bF rfl (by kernel_rfl) ?_)|(with_reducible refine jZ rfl 136 (.tmp 4) (.tmp 22) rfl (w.heap.size+1+1) #[kind,dir,fG,q32 a,q32 b,.slice Ab n cb,q64 je] rfl rfl 136 _ Uf (by kernel_rfl) rfl (by simp[aK,q32,q64]) w w ac (by omega) ?_;intro w7 Z V ar Qw));have al:(kind != 1)=true:=by simpa using O
  simp only[al];have a7:w.heap.size+1<w6.heap.size:=j.Ep.lt;have a8:=j.key.cell;have a9:w.heap.size<w6.heap.size:=j.key.lt;apply mZ;case lX=>intro u;simp only[bV,aq9,aP,ay,aA,aB,aT,aJ];rfl
  case hm=>kernel_rfl
  case hB=>kernel_rfl
  case hA=>kernel_rfl
  case hap=>kernel_rfl
  iterate 2(apply lI.is;·(intro u w' H d;simp[fH,aC,Is]at d;refine fF (by first |rfl) ?_;intro Y J;obtain⟨an,_⟩:=qG H;go_wp2_with(fail);refine J _ _ ?_ rfl;first|exact aH _ _))
  refine lI.word (jG K) (λ_ _ _ h hb=>h.grow hb) ?_ ?_;·(intro u w' H d;simp[fH,aC,Is]at d;refine fF (by first |rfl) ?_;intro Y J;obtain⟨an,_⟩:=qG H;skip;go_wp2_with((with_reducible refine(aR _ Ab cb (Xz.below H)).mono ?_);rintro e w3⟨v3,rfl,a4,ad⟩);(try simp only[d]at J);exact J _ _ ad a4.is)
  refine lI.is (c:=q64 (Mac k K)) ?_ ?_;·(intro u w' H d;simp[fH,aC,Is]at d;obtain⟨ax,At,ct,az,aw⟩:=d;refine fF (by first |rfl) ?_;intro Y J;go_wp2_with(go_loud(with_reducible refine(aib k At ct K _ aw au).mono ?_);rintro e w3⟨rfl,ad⟩);(try simp only[ax,az]at J);exact J _ _ ad rfl)
  apply lI.is;·(intro u w' H d;simp[fH,aC,Is]at d;refine fF (by first |rfl) ?_;intro Y J;obtain⟨an,_⟩:=qG H;go_wp2_with(fail);(try simp only[d]at J);refine J _ _ ?_ rfl;first|exact aH _ _)
  refine lI.last ?_;intro u w8 H d;simp only[gQ]at d;have aL:=d 3 _ rfl;have aM:=d 4 _ rfl;simp only[Is]at aL aM;clear d;refine⟨rfl,?_⟩;intro Y J;have S8:=j.grow H;have bc:=S8.Ep.cell;have bf:=S8.Ep.frozen;have a5:=(U.grow H).setCell (p:=⟨w.heap.size+1,6,none⟩) (by show w.heap.size+1<_;omega) (q64 (Mac k K));have S9:rO w _ k #[kind,dir,fG,q32 a,q32 b,.slice Ab n cb,q64 (Mac k K)]:=S8.set 6 (q64 (Mac k K));have av:=S9.below;have TN:=S9.res;have U:=a5;go_wp2_with(first|(with_reducible refine gy rfl 136 (.tmp 3) rfl (w.heap.size+1) rfl 136 #[kind,dir,fG,q32 a,q32 b,.slice Ab n cb,q64 (Mac k K)] _ S9.Ep bF rfl (by kernel_rfl) ?_)|(with_reducible refine jZ rfl 136 (.tmp 4) (.tmp 22) rfl (w.heap.size+1+1) #[kind,dir,fG,q32 a,q32 b,.slice Ab n cb,q64 (Mac k K)] rfl rfl 136 _ TN (by kernel_rfl) rfl (by simp[aK,q32,q64]) w w av (by omega) ?_;intro w7 Z V ar Qw));have Oe:=Z.cell;refine bodyPost_ret (v:=.agg #[kind,dir,fG,q32 a,q32 b,.slice Ab n cb,(q64 (Mac k K))]) (by simp[results,results110,go_sem,Oe]) rfl ⟨_,rfl,by rw[ag.out];exact⟨_,rfl,(U.kept (by omega) λk H _=>Qw k (by omega)).mono (by omega)⟩,V⟩
 focus(have ag:=ah (ae N);clear ae af;rcases Bool.eq_false_or_eq_true mb with rfl |rfl;(focus((have O:kind=1:=by by_cases h:kind=1;(·exact h);·exact absurd ⟨rfl,h⟩ N);clear N;(have al:(kind != 1)=false:=by simp[O]);clear O));rotate_left;focus(clear N))
 all_goals(go_wp2_with(first|((with_reducible refine(ap _ Ab cb).mono ?_);rintro e w6⟨rfl,M⟩;have j:=S5.grow M;have U:=ai.grow M;have Xz:=aa.below M;have fJ:=j.Ep.cell;have ac:=j.below;have Uf:=j.res)|(with_reducible refine gy rfl 136 (.tmp 3) rfl (w.heap.size+1) rfl 136 #[kind,dir,fG,q32 a,q32 b,.slice Ab n cb,q64 je] _ S5.Ep bF rfl (by kernel_rfl) ?_)|(with_reducible refine gy rfl 136 (.tmp 3) rfl (w.heap.size+1) rfl 136 #[kind,dir,fG,q32 a,q32 b,.slice Ab n cb,q64 je] _ j.Ep bF rfl (by kernel_rfl) ?_)|(with_reducible refine jZ rfl 136 (.tmp 4) (.tmp 22) rfl (w.heap.size+1+1) #[kind,dir,fG,q32 a,q32 b,.slice Ab n cb,q64 je] rfl rfl 136 _ Uf (by kernel_rfl) rfl (by simp[aK,q32,q64]) w w ac (by omega) ?_;intro w7 Z V ar Qw));have Oe:=Z.cell;refine bodyPost_ret (v:=.agg #[kind,dir,fG,q32 a,q32 b,.slice Ab n cb,(q64 je)]) (by simp[results,results110,go_sem,Oe]) rfl ⟨_,rfl,by rw[ag.out];exact⟨_,rfl,(U.kept (by omega) λk H _=>Qw k (by omega)).mono (by omega)⟩,V⟩)
set_option maxRecDepth 8000
structure gG where
  side:Int
  fG:Int
  base:K4
  state:Int
  a:BitVec 32
  b:BitVec 32
  key:K4
  half:Bool
  a2:BitVec 32
  b2:BitVec 32
def adV:K4:=⟨0,0,0,0⟩
def gG.none_:gG:=⟨0,0,adV,0,0,0,adV,false,0,0⟩
def gB (p:gG):Array Value:= #[.int .i64 p.side,.int .i64 p.fG,q32 p.base.k0,q32 p.base.k1,q32 p.base.k2,q32 p.base.k3,.int .i64 p.state,q32 p.a,q32 p.b,q32 p.key.k0,q32 p.key.k1,q32 p.key.k2,q32 p.key.k3,.bool p.half,q32 p.a2,q32 p.b2]
def lS (p:gG):Bool:=decide (0<=p.fG)&&decide (p.fG<16777216)
def kR (p:gG):Int:=if p.side=0 then 0 else 1
def vZ (p:gG) (q:P7) (kind:Int):Bool:=may q&&decide (q.kind=kind)&&decide (q.dir≠kR p)&&decide (q.fG=p.fG)
set_option maxRecDepth 8000
theorem yc(p:gG)(w:World):Calls aj 101 #[.agg (gB p)] w λe w'=>e=.returned (.bool (p.side==0))/\w w':=by unfold gB;go_enter func101,ntmps101;go_wp2_with fail;go_ret;exact⟨rfl,gY.alloc ig _⟩
theorem Qx(p:gG)(w:World):Calls aj 102 #[.agg (gB p)] w λe w'=>e=.returned (.bool (lS p))/\w w':=by unfold gB lS;go_enter func102,ntmps102;go_wp2_with fail;all_goals go_ret;refine⟨congrArg (λb=>Ending.returned (Value.bool b)) ?_,gY.alloc ig _⟩;first|rfl|(simp_all;done)|(simp_all;omega)|(simp_all;intro;omega)
theorem Qy(p:gG)(w:World):Calls aj 124 #[.agg (gB p)] w λe w'=>e=.returned (.int .i64 (kR p))/\w w':=by
 have j:=λW=>yc p W;unfold kR;by_cases h:p.side=0;focus((have d:(p.side==0)=true:=by simp[h]);rw[d]at j;rw[if_pos h])
 rotate_left;focus((have d:(p.side==0)=false:=by simp[h]);rw[d]at j;rw[if_neg h])
 all_goals(unfold gB at j ⊢;clear d h;go_enter func124,ntmps124;go_wp2_with(go_at_call 101;(with_reducible refine(j _).mono ?_);rintro e H⟨rfl,d⟩);go_ret;exact⟨rfl,iP d⟩)
set_option maxRecDepth 8000
theorem XA(p:P7)(h:p.body.length<=2000):(arx p).length<=65536:=by
 have d:=GV p;unfold arx;split;·omega
 ·simp
theorem KZ(k:K4)(p:P7)(A:Option Addr)(n c:Nat)(w:World)(hn:n=p.body.length)(hB:aq2 w A c p.body)(Z:p.body.length<=2000):Calls aj 108 #[.agg #[q32 k.k0,q32 k.k1,q32 k.k2,q32 k.k3],.agg #[.int .i64 p.kind,.int .i64 p.dir,.int .i64 p.fG,q32 p.a,q32 p.b,.slice A n c,q64 p.je]] w λe w'=>e=.returned (.bool (nI k p))/\w w':=by
 have aa:=λW=>Uu p A n c W hn (by omega);have ac:=λW (h:aq2 W A c p.body)=>Xy p A n c W hn h Z;have ad:=XA p Z;replace hn:=hn.symm;rw[show nI k p=(may p&&(p.kind != 1)&&(Mac k (arx p)==p.je)) by rw[Bool.eq_iff_iff];simp[nI]];obtain⟨kind,dir,fG,a,b,body,je⟩:=p;generalize arx ⟨kind,dir,fG,a,b,body,je⟩=tx at*;generalize may ⟨kind,dir,fG,a,b,body,je⟩=b1 at*;simp only at aa ac ⊢;generalize al:(kind != 1)=b2;go_enter func108,ntmps108;go_wp2_with fail;obtain⟨M,K⟩:=fD ((w.alloc (.cells #[q32 k.k0,q32 k.k1,q32 k.k2,q32 k.k3] 32)).alloc (.cells #[.int .i64 kind,.int .i64 dir,.int .i64 fG,q32 a,q32 b,.slice A n c,q64 je] 136));rw[<-K];have V:fK M w 32 #[q32 k.k0,q32 k.k1,q32 k.k2,q32 k.k3]:=by rw[K];exact(fK.new _ _ _).alloc _
 have Q:fK M (w.heap.size+1) 136 #[.int .i64 kind,.int .i64 dir,.int .i64 fG,q32 a,q32 b,.slice A n c,q64 je]:=by rw[K];exact fK.newAt _ _ _ _ (by simp)
 have N:w M:=by rw[K];exact jm.alloc (by simp) _
 have am:w.heap.size<M.heap.size:=V.lt;have an:w.heap.size+1<M.heap.size:=Q.lt;have ae:=hB.below N;have aq:=V.cell;have ar:=Q.cell;clear K;cases b1 <;> cases b2
 all_goals(
  apply iM;case lX=>intro u;simp only[bV,aq9,aP,ay,aA,aB,aT,aJ];rfl
  case hm=>kernel_rfl
  case hB=>kernel_rfl
  case hap=>kernel_rfl
  repeat(first|(apply Lex.is;·(intro u w' H d;simp[fH,aC,Is]at d;refine fF ?_ ?_;(·first|rfl|(simp[aF,yielded,d];done));intro O j;obtain⟨ap,_⟩:=qG H;go_wp2_with(go_at_call 149;(with_reducible refine(aa _).mono ?_);rintro e w3⟨rfl,J⟩);(try simp only[d]at j);refine j _ _ ?_ rfl;first|exact aH _ _|exact J))|(refine Lex.is (c:=undef) ?_ ?_;·(intro u w' H d;simp[fH,aC,Is]at d;refine wG ?_ rfl;simp[aF,yielded,d];done))|(apply Lex.word (jG tx) (λ_ _ _ h hb=>h.grow hb);·(intro u w' H d;simp[fH,aC,Is]at d;refine fF ?_ ?_;(·first|rfl|(simp[aF,yielded,d];done));intro O j;go_wp2_with(go_at_call 150;(with_reducible refine(ac _ (ae.below H)).mono ?_);rintro e w3⟨v3,rfl,ak,J⟩);(try simp only[d]at j);exact j _ _ J ak.is))|(apply Lex.is;·(intro u w' H d;simp[fH,aC,Is]at d;obtain⟨ag,⟨At,ct,ai,af⟩,U⟩:=d;refine fF ?_ ?_;(·first|rfl|(simp[aF,yielded,U];done));intro O j;go_wp2_with(go_at_call 153;(with_reducible refine(aib k At ct tx _ af ad).mono ?_);rintro e w3⟨rfl,J⟩);(try simp only[ag,ai,U]at j);exact j _ _ J rfl)))
  apply Lex.nil;intro u w' H d;simp only[gQ]at d;have Y:=d 16 _ rfl;simp only[Is]at Y;clear d;go_wp2_with fail;go_ret;exact⟨congrArg Ending.returned Y,gZ N H⟩)
section
set_option maxRecDepth 8000
def wo (p:gG) (a b:BitVec 32):gG:=⟨p.side,p.fG,p.base,2,a,b,arp p.base a b,p.half,p.a2,p.b2⟩
def nJ (p:gG):gG:=⟨p.side,p.fG,p.base,0,0,0,adV,p.half,p.a2,p.b2⟩
def jw (p:gG) (q:P7) (kind:Int):Int:=if vZ p q kind=false then 1 else if p.state≠2 then 6 else if q.b≠p.b then 110 else if nI p.key q=false then 90 else 0
def iT (p:gG) (q:P7):Int:=if p.side≠0\/vZ p q 2=false then 1 else if p.state≠1 then 6 else if q.a≠p.a then 110 else if nI p.base q=false then 90 else 0
def wu (p:gG) (q:P7):gG:=if iT p q=0 then wo p p.a q.b else gG.none_
def rP (p:gG) (q:P7):P7:=if iT p q=0 then jA p.base ⟨3,0,p.fG,p.a,q.b,[],0⟩ else P7.none_
def MP (p:gG):Int:=if p.side=0/\lS p=true then 0 else 1
def adW (p:gG) (n:BitVec 32):gG:=if MP p=0 then⟨p.side,p.fG,p.base,1,n,0,adV,p.half,p.a2,p.b2⟩ else gG.none_
def aav (p:gG) (n:BitVec 32):P7:=if MP p=0 then⟨1,0,p.fG,n,0,[],0⟩ else P7.none_
def yg (p:gG) (body:List UInt8):P7:=⟨5,kR p,p.fG,0,p.b,body,0⟩
def wz (p:gG) (body:List UInt8):Int:=if p.state≠2 then 6 else if may (yg p body)=false then 1 else 0
def yh (p:gG) (body:List UInt8):P7:=if wz p body=0 then jA p.key (yg p body) else P7.none_
def ar5 (p:gG) (q:P7):List UInt8:=if jw p q 5=0 then q.body else []
def IV (p:gG):Int:=if p.state≠2 then 6 else if lS p=false then 1 else 0
def arV (p:gG):gG:=if IV p=0 then nJ p else gG.none_
def MQ (p:gG) (why:UInt8):P7:=if IV p=0 then jA p.key ⟨6,kR p,p.fG,0,p.b,[why],0⟩ else P7.none_
def GY (p:gG) (q:P7):gG:=if jw p q 6=0 then nJ p else gG.none_
theorem n21:(2:Int)≠1:=by decide
section
variable (base:K4) (fG:Int) (a b:BitVec 32) (h0:0<=fG) (h1:fG<16777216)
include h0 h1
end
structure aqw (p:gG) (fG:Int) (b:BitVec 32) (key:K4):Prop where
  state:p.state=2
  fG:p.fG=fG
  b:p.b=b
  key:p.key=key
end
set_option maxRecDepth 8000
theorem La(p:gG)(w:World):Calls aj 116 #[.agg (gB p)] w λe w'=>e=.returned (.agg (gB (nJ p)))/\w w':=by show Calls _ _ _ _ λe w'=>e=.returned (.agg #[.int .i64 p.side,.int .i64 p.fG,q32 p.base.k0,q32 p.base.k1,q32 p.base.k2,q32 p.base.k3,.int .i64 0,.int .u32 0,.int .u32 0,.int .u32 0,.int .u32 0,.int .u32 0,.int .u32 0,.bool p.half,q32 p.a2,q32 p.b2])/\w w';unfold gB;go_enter func116,ntmps116;go_wp2_with fail;have d:=fK.newAt (w.alloc (.cells #[.int .i64 p.side,.int .i64 p.fG,q32 p.base.k0,q32 p.base.k1,q32 p.base.k2,q32 p.base.k3,.int .i64 0,.int .u32 0,.int .u32 0,.int .u32 0,.int .u32 0,.int .u32 0,.int .u32 0,.bool p.half,q32 p.a2,q32 p.b2] 34)) 34 #[.int .i64 p.side,.int .i64 p.fG,q32 p.base.k0,q32 p.base.k1,q32 p.base.k2,q32 p.base.k3,.int .i64 0,.int .u32 0,.int .u32 0,.int .u32 0,.int .u32 0,.int .u32 0,.int .u32 0,.bool p.half,q32 p.a2,q32 p.b2] (w.heap.size+1) (by simp);have hc:=d.cell;refine bodyPost_ret (v:=.agg #[.int .i64 p.side,.int .i64 p.fG,q32 p.base.k0,q32 p.base.k1,q32 p.base.k2,q32 p.base.k3,.int .i64 0,.int .u32 0,.int .u32 0,.int .u32 0,.int .u32 0,.int .u32 0,.int .u32 0,.bool p.half,q32 p.a2,q32 p.b2]) (by simp[results,results116,go_sem,hc]) rfl ⟨rfl,jm.alloc (by simp) _⟩
set_option maxRecDepth 8000
theorem Lc(p:gG)(q:P7)(kind:Int)(A:Option Addr)(n c:Nat)(w:World)(hn:q.body.length=n)(af:q.body.length<=2000):Calls aj 107 #[.agg (gB p),.agg #[.int .i64 q.kind,.int .i64 q.dir,.int .i64 q.fG,q32 q.a,q32 q.b,.slice A n c,q64 q.je],.int .i64 kind] w λe w'=>e=.returned (.bool (vZ p q kind))/\w w':=by
 have U:=λW=>Uu q A n c W hn.symm (by omega);have J:=λW=>Qy p W;rw[show vZ p q kind=(may q&&(q.kind==kind)&&(q.dir != kR p)&&(q.fG==p.fG)) by rw[Bool.eq_iff_iff];simp[vZ]];unfold gB at J ⊢;generalize may q=b1 at*;generalize kR p=O at*;generalize h2:(q.kind==kind)=b2;generalize h3:(q.dir != O)=b3;go_enter func107,ntmps107;go_wp2_with fail;obtain⟨j,d⟩:=fD ((w.alloc (.cells #[.int .i64 p.side,.int .i64 p.fG,q32 p.base.k0,q32 p.base.k1,q32 p.base.k2,q32 p.base.k3,.int .i64 p.state,q32 p.a,q32 p.b,q32 p.key.k0,q32 p.key.k1,q32 p.key.k2,q32 p.key.k3,.bool p.half,q32 p.a2,q32 p.b2] 34)).alloc (.cells #[.int .i64 q.kind,.int .i64 q.dir,.int .i64 q.fG,q32 q.a,q32 q.b,.slice A n c,q64 q.je] 136));rw[<-d];have K:fK j w 34 #[.int .i64 p.side,.int .i64 p.fG,q32 p.base.k0,q32 p.base.k1,q32 p.base.k2,q32 p.base.k3,.int .i64 p.state,q32 p.a,q32 p.b,q32 p.key.k0,q32 p.key.k1,q32 p.key.k2,q32 p.key.k3,.bool p.half,q32 p.a2,q32 p.b2]:=by rw[d];exact(fK.new _ _ _).alloc _
 have M:fK j (w.heap.size+1) 136 #[.int .i64 q.kind,.int .i64 q.dir,.int .i64 q.fG,q32 q.a,q32 q.b,.slice A n c,q64 q.je]:=by rw[d];exact fK.newAt _ _ _ _ (by simp)
 have N:w j:=by rw[d];exact jm.alloc (by simp) _
 have Z:w.heap.size<j.heap.size:=K.lt;have aa:w.heap.size+1<j.heap.size:=M.lt;have ad:=K.cell;have ae:=M.cell;clear d;cases b1 <;> cases b2 <;> cases b3
 all_goals(
  refine ara (by kernel_rfl) ?_;repeat(first|(apply gX.want rfl;(·intro w' H V Y hK;obtain⟨ac,_⟩:=qG H;go_wp2_with(first|((first|(go_at_call 149;(with_reducible refine(U _).mono ?_))|(go_at_call 124;(with_reducible refine(J _).mono ?_)));rintro e fU⟨rfl,Q⟩));first|exact aH _ _|exact Q);(·simp only[aP,ay,aA,aB];rfl))|(apply gX.skip rfl;·simp only[aP,ay,aA,aB];rfl))
  refine gX.nil ?_;intro w' H;go_wp2_with fail;go_ret;exact⟨rfl,gZ N H⟩)
set_option maxRecDepth 8000
@[go_sem] theorem akg (t:TypeId) (a:BitVec 64):binOp .quo t (q64 a) (.int .u64 4294967296)=pure (q64 (a >>> 32)):=by
 have e:(IntKind.u64.wrap ((a.toNat:Int).tdiv 4294967296))=((a >>> 32).toNat:Int):=by have:=a.isLt;rw[IntKind.wrap_u64,BitVec.toNat_ushiftRight,Nat.shiftRight_eq_div_pow,Int.tdiv_eq_ediv_of_nonneg (by omega)];simp;omega
 show binOp .quo t (.int .u64 _) (.int .u64 _)=_;rw[binOp_quo];unfold Op.intDiv;simp only[show ¬((4294967296:Int)=0) by decide,if_false];exact congrArg (fun n=>(pure (Value.int .u64 n):Sem Value)) e
def aoU (a:BitVec 64):BitVec 64:=a % 256#64
@[go_sem] theorem aip (t:TypeId) (a:BitVec 64):binOp .quo t (q64 a) (.int .u64 256)=pure (q64 (a >>> 8)):=by
 have e:(IntKind.u64.wrap ((a.toNat:Int).tdiv 256))=((a >>> 8).toNat:Int):=by have:=a.isLt;rw[IntKind.wrap_u64,BitVec.toNat_ushiftRight,Nat.shiftRight_eq_div_pow,Int.tdiv_eq_ediv_of_nonneg (by omega)];simp;omega
 show binOp .quo t (.int .u64 _) (.int .u64 _)=_;rw[binOp_quo];unfold Op.intDiv;simp only[show ¬((256:Int)=0) by decide,if_false];exact congrArg (fun n=>(pure (Value.int .u64 n):Sem Value)) e
@[go_sem] theorem aiq (t:TypeId) (a:BitVec 64):binOp .rem t (q64 a) (.int .u64 256)=pure (q64 (aoU a)):=by rfl
theorem asb{t:TypeId}{x:UInt8}(h:fK w g t #[q8 x]):aq2 w (some ⟨g,0,none⟩) 1 [x]:=⟨Row.block (cs:= #[q8 x]) h,aW _,by decide⟩
section
theorem arn.empty(w:World)(base:Nat):arn w base none 0 []:=arn.nil w base
attribute [local go_sem high] Ie Ig
end
def Qz (p:P7):Value->World->Prop:=fun v w=> ∃A c,v=.agg #[.int .i64 p.kind,.int .i64 p.dir,.int .i64 p.fG,q32 p.a,q32 p.b,.slice A p.body.length c,q64 p.je]/\aq2 w A c p.body
theorem Ou.toB(h:Ou base p v w):Qz p v w:=by obtain⟨bv,rfl,d⟩:=h;obtain⟨A,c,rfl,hB,_⟩:=d;exact⟨A,c,rfl,hB⟩
theorem Qz.grow(h:Qz p v w)(d:w w'):Qz p v w':=by obtain⟨A,c,e,hB⟩:=h;exact⟨A,c,e,hB.below d⟩
set_option maxRecDepth 8000
theorem GZ(p:gG)(q:P7)(kind:Int)(A:Option Addr)(n c:Nat)(w:World)(hn:q.body.length=n)(hB:aq2 w A c q.body)(N:q.body.length<=2000):Calls aj 115 #[.agg (gB p),.agg #[.int .i64 q.kind,.int .i64 q.dir,.int .i64 q.fG,q32 q.a,q32 q.b,.slice A n c,q64 q.je],.int .i64 kind] w λe w'=>e=.returned (.int .i64 (jw p q kind))/\w w':=by
 have J:=λW=>Lc p q kind A n c W hn N;have O:=λW (h:aq2 W A c q.body)=>KZ p.key q A n c W hn.symm h N;obtain⟨er,d⟩:=fD (jw p q kind);rw[<-d];unfold jw at d;generalize vZ p q kind=M at J d;generalize nI p.key q=rb at O d;obtain⟨Y,Q⟩:=fD (p.state != 2);obtain⟨Z,U⟩:=fD (q.b != p.b);have K:er=if M=false then 1 else if Y=true then 6 else if Z=true then 110 else if rb=false then 90 else 0:=by grind
 clear d;unfold gB at J ⊢
 cases M <;> cases Y <;> cases Z <;> cases rb <;>
   (simp only [bU, Bool.true_eq_false, if_true, if_false, reduceCtorEq]at K
    subst K
    replace Q:=Q.symm
    replace U:=U.symm
    go_enter func115,ntmps115
    go_wp2_with (first
      |(go_at_call 107;(with_reducible refine(J _).mono ?_);rintro e V⟨rfl,j⟩;obtain⟨ac,_⟩:=qG j;have ae:w.heap.size+1<V.heap.size:=(by have:=j.size;simp at this;omega);have ad:w.heap.size<V.heap.size:=(by omega);have H:=iP (iP j))
      |(go_at_call 108;(with_reducible refine(O _ (hB.below H)).mono ?_);rintro e w2⟨rfl,aa⟩))
    go_ret
    first
      |exact⟨rfl,H⟩
      |exact⟨rfl,gZ H aa⟩)
set_option maxRecDepth 8000
theorem akh(p:gG)(a b:BitVec 32)(w:World):Calls aj 109 #[.agg (gB p),q32 a,q32 b] w λe w'=>e=.returned (.agg (gB (wo p a b)))/\w w':=by show Calls _ _ _ _ λe w'=>e=.returned (.agg #[.int .i64 p.side,.int .i64 p.fG,q32 p.base.k0,q32 p.base.k1,q32 p.base.k2,q32 p.base.k3,.int .i64 2,q32 a,q32 b,q32 (arp p.base a b).k0,q32 (arp p.base a b).k1,q32 (arp p.base a b).k2,q32 (arp p.base a b).k3,.bool p.half,q32 p.a2,q32 p.b2])/\w w';unfold gB;go_enter func109,ntmps109;go_wp2_with(first|(go_at_call 154;(with_reducible refine(acw p.base a b _).mono ?_);rintro e H⟨rfl,d⟩;go_loud(have j:fK H w 34 #[.int .i64 p.side,.int .i64 p.fG,q32 p.base.k0,q32 p.base.k1,q32 p.base.k2,q32 p.base.k3,.int .i64 2,q32 a,q32 b,q32 p.key.k0,q32 p.key.k1,q32 p.key.k2,q32 p.key.k3,.bool p.half,q32 p.a2,q32 p.b2]:=fK.below ((fK.new w 34 #[.int .i64 p.side,.int .i64 p.fG,q32 p.base.k0,q32 p.base.k1,q32 p.base.k2,q32 p.base.k3,.int .i64 2,q32 a,q32 b,q32 p.key.k0,q32 p.key.k1,q32 p.key.k2,q32 p.key.k3,.bool p.half,q32 p.a2,q32 p.b2]).alloc _) d (by simp;omega);have N:fK H (w.heap.size+1) 34 gd:=fK.below (fK.newAt _ 34 gd (w.heap.size+1) (by simp)) d (by simp);have O:=iP (iP d);have U:=j.cell;have V:=j.frozen))|(with_reducible refine jZ rfl 34 (.tmp 6) (.tmp 18) rfl (w.heap.size+1) #[.int .i64 p.side,.int .i64 p.fG,q32 p.base.k0,q32 p.base.k1,q32 p.base.k2,q32 p.base.k3,.int .i64 2,q32 a,q32 b,q32 (arp p.base a b).k0,q32 (arp p.base a b).k1,q32 (arp p.base a b).k2,q32 (arp p.base a b).k3,.bool p.half,q32 p.a2,q32 p.b2] rfl rfl 34 _ ((((N.far (p:=⟨w,9,none⟩) (by simp) _).far (p:=⟨w,10,none⟩) (by simp) _).far (p:=⟨w,11,none⟩) (by simp) _).far (p:=⟨w,12,none⟩) (by simp) _) (by kernel_rfl) rfl (by simp[aK,q32]) w w ((((O.setCell (p:=⟨w,9,none⟩) ig _).setCell (p:=⟨w,10,none⟩) ig _).setCell (p:=⟨w,11,none⟩) ig _).setCell (p:=⟨w,12,none⟩) ig _) (by omega) ?_;intro w7 M J Y Q));have K:=M.cell;refine bodyPost_ret (v:=.agg #[.int .i64 p.side,.int .i64 p.fG,q32 p.base.k0,q32 p.base.k1,q32 p.base.k2,q32 p.base.k3,.int .i64 2,q32 a,q32 b,q32 (arp p.base a b).k0,q32 (arp p.base a b).k1,q32 (arp p.base a b).k2,q32 (arp p.base a b).k3,.bool p.half,q32 p.a2,q32 p.b2]) (by simp[results,results109,go_sem,K]) rfl ⟨rfl,J⟩
set_option maxRecDepth 8000
def jT (q:P7) (A:Option Addr) (n c:Nat):Array Value:= #[.int .i64 q.kind,.int .i64 q.dir,.int .i64 q.fG,q32 q.a,q32 q.b,.slice A n c,q64 q.je]
theorem iD(p:gG):(aj.info? 34).map (·.size)=some (gB p).size:=by rfl
theorem kK(p:gG):(gB p).all (·.oneCell')=true:=by simp[gB,aK,q32]
theorem kS(q:P7)(A:Option Addr)(n c:Nat):(aj.info? 136).map (·.size)=some (jT q A n c).size:=by rfl
theorem qM(q:P7)(A:Option Addr)(n c:Nat):(jT q A n c).all (·.oneCell')=true:=by simp[jT,aK,q32,q64]
def yj (w:World) (p:gG) (q:P7) (err:Int) (e:Ending) (w':World):Prop:= ∃A c,e=.returned (.tuple #[.agg (gB p),.agg (jT q A q.body.length c),.int .i64 err])/\aq2 w' A c q.body/\w w'
def XB (w:World) (p:gG) (err:Int) (e:Ending) (w':World):Prop:=e=.returned (.tuple #[.agg (gB p),.int .i64 err])/\w w'
def adX (w:World) (q:P7) (err:Int) (e:Ending) (w':World):Prop:= ∃A c,e=.returned (.tuple #[.agg (jT q A q.body.length c),.int .i64 err])/\aq2 w' A c q.body/\w w'
theorem yt(w w':World)(err:Int)(d:w w'):yj w gG.none_ P7.none_ err (.returned (.tuple #[.agg gd,.agg gi,err])) w':=⟨none,0,by rfl,aq2.nil _,d⟩
theorem zk(p:gG)(h:p.side=0):(p.side==0)=true/\(p.side != 0)=false:=by simp[h]
theorem Y0(p:gG)(h: ¬p.side=0):(p.side==0)=false/\(p.side != 0)=true:=by simp[h]
theorem XC(p:gG):(gB p)[1]? =some (.int .i64 p.fG):=rfl
theorem nK(p:gG)(i:Nat):(gB p)[i]? =(#[p.side,p.fG,q32 p.base.k0,q32 p.base.k1,q32 p.base.k2,q32 p.base.k3,p.state,q32 p.a,q32 p.b,q32 p.key.k0,q32 p.key.k1,q32 p.key.k2,q32 p.key.k3,p.half,q32 p.a2,q32 p.b2]:Array Value)[i]? :=rfl
set_option maxRecDepth 8000
theorem qN(k:K4)(p:P7):(jA k p).kind=p.kind/\(jA k p).dir=p.dir/\(jA k p).fG=p.fG/\(jA k p).a=p.a/\(jA k p).b=p.b/\(jA k p).body=p.body:=by unfold jA;grind
theorem aax(k:K4)(kind dir fG:Int)(a b:BitVec 32)(w:World):Calls aj 110 #[.agg #[q32 k.k0,q32 k.k1,q32 k.k2,q32 k.k3],.agg #[kind,dir,fG,q32 a,q32 b,nS,.int .u64 0]] w λe w'=> ∃A c,e=.returned (jT (jA k ⟨kind,dir,fG,a,b,[],0⟩) A 0 c)/\(∀W,aq2 W A c [])/\w w':=by refine(Qv k kind dir fG a b [] 0 none 0 0 w rfl (aq2.nil _) (by decide)).mono ?_;rintro e w'⟨v,rfl,H,j⟩;obtain⟨bv,rfl,A,c,rfl,hB,_⟩:=H;have d:(jA k ⟨kind,dir,fG,a,b,[],0⟩).body= []:=(qN k _).2.2.2.2.2;rw[d]at hB;refine⟨A,c,?_,λW=>⟨λh0=>absurd h0 (by decide),hB.cap,hB.max⟩,j⟩;rw[d];rfl
theorem adY(w w':World)(p:gG)(k:K4)(q:P7)(j:q.body= [])(A:Option Addr)(c:Nat)(H: ∀W,aq2 W A c [])(d:w w'):yj w p (jA k q) 0 (.returned (.tuple #[gB p,jT (jA k q) A 0 c,zI])) w':=by
 have:(jA k q).body= []:=by rw[(qN k q).2.2.2.2.2,j]
 refine⟨A,c,by grind,by grind,d⟩
end Go.Proofs.YthnmgjngniciaaaGreatDoor
