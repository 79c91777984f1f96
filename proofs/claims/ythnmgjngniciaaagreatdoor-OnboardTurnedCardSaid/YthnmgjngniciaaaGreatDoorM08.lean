/- Parts. -/
import Derived.Test.YthnmgjngniciaaaGreatDoorM07
import Derived.Test.YthnmgjngniciaaaGreatDoorM02
import Derived.Lib.Hide
import Derived.LaidMore
import Derived.Test.YthnmgjngniciaaaGreatDoorM01
import Derived.Test.YthnmgjngniciaaaGreatDoorM03
import Derived.Test.YthnmgjngniciaaaGreatDoorM04
import Derived.Test.YthnmgjngniciaaaGreatDoorChecked
import Derived.Deep.QuietTactic
import Derived.BigQuiet
set_option linter.all false
set_option maxHeartbeats 16000000
set_option maxRecDepth 8000
open BitVec renaming ofInt→aQ,ofNat→bT
open Bool renaming and_eq_true→bM,false_eq_true→bU
open List renaming cons_append→bQ,length_map→eU,map→bV,mem_cons→bJ,mem_of_getElem?→bP,nil_append→aZ,not_mem_nil→dH,range→eY,setIfInBounds_toArray→ay,set_cons_succ→aB,set_cons_zero→aA
open Nat renaming le_trans→aG,lt_of_lt_of_le→aU,mod_eq_of_lt→dF,reduceAdd→aT,zero_add→aJ,zero_le→aV
open Option.some renaming injEq→aO
namespace Go.Proofs.YthnmgjngniciaaaGreatDoor
open Go.RowKit Go.Shelf Tryz
open Act renaming put→aP
open Addr.mk renaming injEq→cZ
open Below renaming heap_setCell→aN,refl→aH
open Lib renaming hid→ah
open Region renaming binds→aC
open Tryz renaming prog→aj
open Value renaming oneCell'→aK
open World renaming setCell→dD
variable{bs:List UInt8}{at_ c p:Nat}{A:Option Addr}{w w':World}
theorem ab8(n:Int)(w:World):Calls aj 231 #[n,zI] w λe w'=>(∃x:Int,e=.returned (.tuple #[x,(if lJ n=true then 0 else 7:Int)]))/\w'=w:=by
 have d:=λW=>uV n W;have J:=λW=>uV 0 W;have M:lJ 0=true:=by decide
 rw[M]at J;cases j:lJ n with|false=>rw[j]at d;simp only[bU,if_false];go_enter func231,ntmps231;go_wp2_with(first|((with_reducible refine(d _).mono ?_);rintro e K⟨rfl,rfl⟩));go_ret2;exact⟨⟨_,rfl⟩,rfl⟩|true=>have H:=j;unfold lJ at H;simp only[bM,decide_eq_true_eq]at H;obtain⟨b1,b2⟩:=H;rw[j]at d;simp only[if_true];go_enter func231,ntmps231;go_wp2_with(first|((with_reducible first|refine(d _).mono ?_|refine(J _).mono ?_);rintro e K⟨rfl,rfl⟩));go_ret2;exact⟨⟨_,rfl⟩,rfl⟩
theorem ab9(w:World):Calls aj 188 #[zI] w λe w'=>e=.returned true/\w'=w:=by
 have d:=λW=>ab8 0 W;have j:lJ 0=true:=by decide
 simp only[j,if_true]at d;go_enter func188,ntmps188;go_wp2_with(first|((with_reducible refine(d _).mono ?_);rintro e H⟨⟨x,rfl⟩,rfl⟩));go_ret;exact⟨rfl,rfl⟩
def yM (x1 x2 x3:Int):Bool:=decide (1<=x1)&&decide (x1<=1048576)&&decide (1<=x3)&&decide (x3<=1048576)&&decide (0<=x2)&&decide (x2<=20)
theorem afI(d j H:Int)(w:World):Calls aj 138 #[.agg #[d,j,H,zI,nS]] w λe w'=>e=.returned (.bool (yM d j H))/\w w':=by
 have J:Own w _ [_]:=(Own.nil w).alloc 168 #[d,j,H,zI,nS] _ rfl;have Z:=J.b0.cell;have M:=λW=>ab9 W;have K:yM d j H=(decide (1<=d)&&decide (d<=1048576)&&decide (1<=H)&&decide (H<=1048576)&&decide (0<=j)&&decide (j<=20)):=rfl;generalize yM d j H=ok at*;by_cases N:d<1;rotate_left;focus(by_cases O:1048576<d;rotate_left;focus(by_cases Q:H<1;rotate_left;focus(by_cases U:1048576<H;rotate_left;focus(by_cases V:j<0;rotate_left;focus(by_cases Y:20<j;rotate_left;focus((obtain rfl:ok=true:=by rw[K];simp;omega);clear K;go_enter func138,ntmps138;go_wp2_with(first|((with_reducible refine(M _).mono ?_);rintro e w1⟨rfl,rfl⟩));refine wp_loop_rounds 1 ?_;rw[rounds_succ];go_wp2_with fail;go_ret;exact⟨rfl,J.below⟩))))))
 all_goals((obtain rfl:ok=false:=by rw[K];simp;omega);go_enter func138,ntmps138;go_wp2;go_ret;exact⟨rfl,J.below⟩)
def acd (x1 x2 x3:Int):Array Value:=if yM x1 x2 x3=true then #[.int .i64 x1,.int .i64 x2,.int .i64 x3,.int .i64 0,.slice none 0 0] else #[.int .i64 0,.int .i64 0,.int .i64 0,.int .i64 0,.slice none 0 0]
theorem afJ(H J K:Int)(w:World):Calls aj 85 #[H,J,K,zI] w λe w'=>e=.returned (.tuple #[acd H J K,(if yM H J K=true then 0 else 1:Int)])/\w w':=by
 have d:Own w _ [_,_]:=Own.iY w 168 168 #[zI,zI,zI,zI,nS] #[H,J,K,zI,nS];have hm:=λW=>afI H J K W;unfold acd;rcases hk:yM H J K with _ |_;focus(rw[hk]at hm;simp only[bU,if_false];go_enter func85,ntmps85;go_wp2_with(first|((with_reducible refine(hm _).mono ?_);rintro e M⟨rfl,j⟩;replace d:=d.grow j;have N:=d.b1.cell)|((with_reducible refine oG (#[zI,zI,zI,zI,nS]) d rfl _ _ rfl rfl rfl (by kernel_rfl) rfl ?_ ?_);(·first|(simp[aK];done));intro M j N O;replace d:=j;clear j)))
 rotate_left;focus(rw[hk]at hm;simp only[if_true];go_enter func85,ntmps85;go_wp2_with(first|((with_reducible refine(hm _).mono ?_);rintro e M⟨rfl,j⟩;replace d:=d.grow j;have N:=d.b1.cell)|((with_reducible refine oG (#[H,J,K,zI,nS]) d rfl _ _ rfl rfl rfl (by kernel_rfl) rfl ?_ ?_);(·first|(simp[aK];done));intro M j N O;replace d:=j;clear j)))
 all_goals(exact bodyPost_ret (gU results85 _ _ _ _ _ _ rfl rfl d.b0 underlying168 rfl (by kernel_rfl)) rfl ⟨rfl,d.below⟩)
theorem ace(r:Rl):Dv r=((lJ r.ahead&&lJ r.behind)&&yM r.period r.most r.quiet&&jK r.oJ&&jK r.skew&&jK r.lend&&decide (0<=r.wI)&&decide (r.wI<=1099511627776)):=by unfold Dv yM;simp only[Bool.and_assoc]
abbrev rlC (r:Rl):Array Value:= #[.int .i64 r.ahead,.int .i64 r.behind,.int .i64 r.period,.int .i64 r.most,.int .i64 r.quiet,.int .i64 r.oJ,.int .i64 r.wI,.int .i64 r.skew,.int .i64 r.lend]
theorem afK(r:Rl)(w:World):Calls aj 45 #[rlC r] w λe w'=>e=.returned (.bool (Dv r))/\w w':=by
 have J:=ace r;have d:Own w _ [_]:=(Own.nil w).alloc 29 (rlC r) _ rfl;obtain⟨r1,Q,U,V,Y,r6,Z,r8,r9⟩:=r;simp only[rlC]at J d ⊢;have ae:=d.b0.cell;have N:=λW=>ab6 r1 Q W;have K:=λW=>afJ U V Y W;have aa:=λW=>Pn r6 W;have ac:=λW=>Pn r8 W;have ad:=λW=>Pn r9 W;unfold Po Pq at N;unfold acd at K;generalize Dv ⟨r1,Q,U,V,Y,r6,Z,r8,r9⟩=O at*;generalize (lJ r1&&lJ Q)=bA at*;generalize yM U V Y=bL at*;generalize jK r6=c1 at*;generalize jK r8=c2 at*;generalize jK r9=c3 at*;rcases bA with _ |_
 ·obtain rfl:O=false:=by rw[J];simp
  clear J;simp only[bU,if_false]at N;cases bL with|false=>simp only[bU,if_false]at K;go_enter func45,ntmps45;go_wp2_with(first|((with_reducible refine(N _).mono ?_);rintro e H⟨rfl,j⟩;replace d:=Own.new1 (d.grow j) 36 gv;have M:=d.b0.cell)|((with_reducible refine(K _).mono ?_);rintro e H⟨rfl,j⟩;replace d:=Own.new2 (d.grow j) 168 #[zI,zI,zI,zI,nS];have M:=d.b0.cell));go_ret;exact⟨rfl,d.below⟩|true=>simp only[if_true]at K;go_enter func45,ntmps45;go_wp2_with(first|((with_reducible refine(N _).mono ?_);rintro e H⟨rfl,j⟩;replace d:=Own.new1 (d.grow j) 36 gv;have M:=d.b0.cell)|((with_reducible refine(K _).mono ?_);rintro e H⟨rfl,j⟩;replace d:=Own.new2 (d.grow j) 168 #[U,V,Y,zI,nS];have M:=d.b0.cell));go_ret;exact⟨rfl,d.below⟩
 focus(simp only[if_true]at N;rcases bL with _ |_;(·(obtain rfl:O=false:=by rw[J];simp);clear J;simp only[bU,if_false]at K;go_enter func45,ntmps45;go_wp2_with(first|((with_reducible refine(N _).mono ?_);rintro e H⟨rfl,j⟩;replace d:=Own.new1 (d.grow j) 36 #[(-1:Int),r1,Q,false];have M:=d.b0.cell)|((with_reducible refine(K _).mono ?_);rintro e H⟨rfl,j⟩;replace d:=Own.new2 (d.grow j) 168 #[zI,zI,zI,zI,nS];have M:=d.b0.cell));go_ret;exact⟨rfl,d.below⟩);focus(simp only[if_true]at K;rcases c1 with _ |_;(·(obtain rfl:O=false:=by rw[J];simp);clear J;go_enter func45,ntmps45;go_wp2_with(first|((with_reducible refine(N _).mono ?_);rintro e H⟨rfl,j⟩;replace d:=Own.new1 (d.grow j) 36 #[(-1:Int),r1,Q,false];have M:=d.b0.cell)|((with_reducible refine(K _).mono ?_);rintro e H⟨rfl,j⟩;replace d:=Own.new2 (d.grow j) 168 #[U,V,Y,zI,nS];have M:=d.b0.cell)|((with_reducible refine(aa _).mono ?_);rintro e H⟨rfl,rfl⟩));go_ret;exact⟨rfl,d.below⟩);focus(rcases c2 with _ |_;(·(obtain rfl:O=false:=by rw[J];simp);clear J;go_enter func45,ntmps45;go_wp2_with(first|((with_reducible refine(N _).mono ?_);rintro e H⟨rfl,j⟩;replace d:=Own.new1 (d.grow j) 36 #[(-1:Int),r1,Q,false];have M:=d.b0.cell)|((with_reducible refine(K _).mono ?_);rintro e H⟨rfl,j⟩;replace d:=Own.new2 (d.grow j) 168 #[U,V,Y,zI,nS];have M:=d.b0.cell)|((with_reducible first|refine(aa _).mono ?_|refine(ac _).mono ?_);rintro e H⟨rfl,rfl⟩));go_ret;exact⟨rfl,d.below⟩);focus(rcases c3 with _ |_;(focus(obtain rfl:O=false:=by rw[J];simp));rotate_left;focus(by_cases h6:0<=Z;(focus((have f6:decide (0<=Z)=true:=by simpa using h6);by_cases h7:Z<=1099511627776;(focus((have f7:decide (Z<=1099511627776)=true:=by simpa using h7);obtain rfl:O=true:=by rw[J,f6,f7];rfl));rotate_left;focus((have f7:decide (Z<=1099511627776)=false:=by simpa using h7);obtain rfl:O=false:=by rw[J,f6,f7];rfl)));rotate_left 2;focus((have f6:decide (0<=Z)=false:=by simpa using h6);obtain rfl:O=false:=by rw[J,f6];rfl))))))
 all_goals(clear J;go_enter func45,ntmps45;go_wp2_with(first|((with_reducible refine(N _).mono ?_);rintro e H⟨rfl,j⟩;replace d:=Own.new1 (d.grow j) 36 #[(-1:Int),r1,Q,false];have M:=d.b0.cell)|((with_reducible refine(K _).mono ?_);rintro e H⟨rfl,j⟩;replace d:=Own.new2 (d.grow j) 168 #[U,V,Y,zI,nS];have M:=d.b0.cell)|((with_reducible first|refine(aa _).mono ?_|refine(ac _).mono ?_|refine(ad _).mono ?_);rintro e H⟨rfl,rfl⟩));go_ret;exact⟨rfl,d.below⟩)
structure Zx where
  k0:BitVec 32
  k1:BitVec 32
  k2:BitVec 32
  k3:BitVec 32
  state:Int
  a:BitVec 32
  b:BitVec 32
  j0:BitVec 32
  j1:BitVec 32
  j2:BitVec 32
  j3:BitVec 32
  half:Bool
  a2:BitVec 32
  b2:BitVec 32
structure kZ where
  q:Zx
  nx:BitVec 32
  v:DF
  A3:Option Addr
  n3:Nat
  c3:Nat
def jf (x:Tr) (m:kZ):Array Value:= #[.int .i64 x.id,.int .i64 x.len,.int .i64 x.rl.ahead,.int .i64 x.rl.behind,.int .i64 x.rl.period,.int .i64 x.rl.most,.int .i64 x.rl.quiet,.int .i64 x.rl.oJ,.int .i64 x.rl.wI,.int .i64 x.rl.skew,.int .i64 x.rl.lend,.int .i64 x.side,.int .i64 x.fG,q32 m.q.k0,q32 m.q.k1,q32 m.q.k2,q32 m.q.k3,.int .i64 m.q.state,q32 m.q.a,q32 m.q.b,q32 m.q.j0,q32 m.q.j1,q32 m.q.j2,q32 m.q.j3,.bool m.q.half,q32 m.q.a2,q32 m.q.b2,q32 m.nx,.int .i64 x.sl,.int .i64 x.sa,.int .i64 x.sb,.bool x.free,.int .i64 x.last,.bool x.on,.int .i64 x.pos.edge,.int .i64 x.pos.at_,.bool x.pos.rev,.int .i64 x.ref,.int .i64 x.past,.bool x.rev,.int .i64 x.ma.ref,.bool x.ma.rev,.slice m.v.A1 m.v.n1 m.v.c1,.slice m.v.A2 m.v.n2 m.v.c2,.int .i64 x.ma.gap,.int .i64 x.at_,.bool x.held,.slice m.A3 m.n3 m.c3]
structure zJ (w:World) (x:Tr) (m:kZ):Prop where
  ma:EK w x.ma m.v
  stops:fE aq7 w m.A3 x.stops
  e3:x.stops.length=m.n3
  l3:m.n3<=100
  q3:m.n3<=m.c3
theorem zJ.below{x:Tr}{m:kZ}(h:zJ w x m)(d:w w'):zJ w' x m:={h with ma:=h.ma.below d,stops:=h.stops.below d}
theorem lg(x:Tr)(m:kZ):(jf x m).size=48:=rfl
theorem iF(x:Tr)(m:kZ):(aj.info? 44).map (·.size)=some (jf x m).size:=by rw[lg];kernel_rfl
theorem lM(x:Tr)(m:kZ):(jf x m).all (·.oneCell')=true:=by simp[jf,aK,q32]
theorem tr0(x:Tr)(m:kZ):(jf x m)[0]? =some (.int .i64 x.id):=rfl
theorem tr1(x:Tr)(m:kZ):(jf x m)[1]? =some (.int .i64 x.len):=rfl
theorem tr2(x:Tr)(m:kZ):(jf x m)[2]? =some (.int .i64 x.rl.ahead):=rfl
theorem tr3(x:Tr)(m:kZ):(jf x m)[3]? =some (.int .i64 x.rl.behind):=rfl
theorem tr4(x:Tr)(m:kZ):(jf x m)[4]? =some (.int .i64 x.rl.period):=rfl
theorem tr5(x:Tr)(m:kZ):(jf x m)[5]? =some (.int .i64 x.rl.most):=rfl
theorem tr6(x:Tr)(m:kZ):(jf x m)[6]? =some (.int .i64 x.rl.quiet):=rfl
theorem tr7(x:Tr)(m:kZ):(jf x m)[7]? =some (.int .i64 x.rl.oJ):=rfl
theorem tr8(x:Tr)(m:kZ):(jf x m)[8]? =some (.int .i64 x.rl.wI):=rfl
theorem tr9(x:Tr)(m:kZ):(jf x m)[9]? =some (.int .i64 x.rl.skew):=rfl
theorem aoc(x:Tr)(m:kZ):(jf x m)[10]? =some (.int .i64 x.rl.lend):=rfl
theorem aod(x:Tr)(m:kZ):(jf x m)[11]? =some (.int .i64 x.side):=rfl
theorem aoe(x:Tr)(m:kZ):(jf x m)[12]? =some (.int .i64 x.fG):=rfl
theorem aso(x:Tr)(m:kZ):(jf x m)[27]? =some (q32 m.nx):=rfl
theorem aof(x:Tr)(m:kZ):(jf x m)[28]? =some (.int .i64 x.sl):=rfl
theorem aog(x:Tr)(m:kZ):(jf x m)[29]? =some (.int .i64 x.sa):=rfl
theorem aoh(x:Tr)(m:kZ):(jf x m)[30]? =some (.int .i64 x.sb):=rfl
theorem aoi(x:Tr)(m:kZ):(jf x m)[31]? =some (.bool x.free):=rfl
theorem aoj(x:Tr)(m:kZ):(jf x m)[32]? =some (.int .i64 x.last):=rfl
theorem asq(x:Tr)(m:kZ):(jf x m)[33]? =some (.bool x.on):=rfl
theorem aiZ(x:Tr)(m:kZ):(jf x m)[34]? =some (.int .i64 x.pos.edge):=rfl
theorem afL(x:Tr)(m:kZ):(jf x m)[35]? =some (.int .i64 x.pos.at_):=rfl
theorem afM(x:Tr)(m:kZ):(jf x m)[36]? =some (.bool x.pos.rev):=rfl
theorem afN(x:Tr)(m:kZ):(jf x m)[37]? =some (.int .i64 x.ref):=rfl
theorem afO(x:Tr)(m:kZ):(jf x m)[38]? =some (.int .i64 x.past):=rfl
theorem alQ(x:Tr)(m:kZ):(jf x m)[39]? =some (.bool x.rev):=rfl
theorem acf(x:Tr)(m:kZ):(jf x m)[40]? =some (.int .i64 x.ma.ref):=rfl
theorem acg(x:Tr)(m:kZ):(jf x m)[41]? =some (.bool x.ma.rev):=rfl
theorem Zy(x:Tr)(m:kZ):(jf x m)[42]? =some (.slice m.v.A1 m.v.n1 m.v.c1):=rfl
theorem Wj(x:Tr)(m:kZ):(jf x m)[43]? =some (.slice m.v.A2 m.v.n2 m.v.c2):=rfl
theorem ach(x:Tr)(m:kZ):(jf x m)[44]? =some (.int .i64 x.ma.gap):=rfl
theorem ai0(x:Tr)(m:kZ):(jf x m)[45]? =some (.int .i64 x.at_):=rfl
theorem ai1(x:Tr)(m:kZ):(jf x m)[46]? =some (.bool x.held):=rfl
theorem Wn(x:Tr)(m:kZ):(jf x m)[47]? =some (.slice m.A3 m.n3 m.c3):=rfl
def oh:List Int:= [8,10,32,1,24,8,2,13,2,24,10,14,1,15,2,2,15,15,2,15,7,2,4,3,8,7,10,5,15,1,10,15,15,1,10,15,1,15,7,1,15,10,15,7,15,1,2,6,15,1,8,15,7,1,4,7,15,2,7,15,15,1,1,14,32,1,8,10,8,8,15,3,15,1,24,32,15,12,7,8,7,2,8,8,15,7,8,2,4,16,15,2,7,2,5,15]
def Tab (w:World):Prop:=fE aq7 w (some ⟨0,0,none⟩) oh
theorem Tab.below(h:Tab w)(d:w w'):Tab w':=fE.below h d
def fQ (v:Int):Int:=if 0<=v/\v<96 then oh[v.toNat]! else 0
theorem Pv: ∀x∈oh,1<=x/\x<=32:=by decide
theorem lq(v:Int):0<=fQ v/\fQ v<=32:=by
 unfold fQ;split;·have d:oh.length=96:=rfl;rw[getElem!_pos oh v.toNat (by omega)];have:=Pv _ (List.getElem_mem (l:=oh) (n:=v.toNat) (by omega));omega
 ·omega
theorem pF(v:Int)(w:World)(j:Tab w):Calls aj 156 #[v] w λe w'=>e=.returned (fQ v:Int)/\w'=w:=by
 unfold fQ;by_cases d:0<=v;focus(obtain⟨k,rfl⟩:=Int.eq_ofNat_of_zero_le d;by_cases H:k<96;(focus(have K:oh.length=96:=rfl;obtain⟨b,off,e,J,hc⟩:=j.int (i:=k) (by omega);simp only[aO,cZ,and_true]at e;obtain⟨rfl,rfl⟩:=e;rw[if_pos (by omega),Int.toNat_natCast];generalize oh[k]! =x at*;simp only[aJ]at hc));rotate_left;focus(rw[if_neg (by omega)]))
 rotate_left 2;focus(rw[if_neg (by omega)])
 all_goals(go_enter func156,ntmps156;go_wp2;go_ret;exact⟨rfl,rfl⟩)
def SC (v:Int):Int:=if v=20\/v=52\/v=58 then 127 else if v=38\/v=43 then 126 else 0
def Yt (v:Int):Int:=if v=81 then 1 else if v=6\/v=8\/v=14\/v=15\/v=21\/v=46\/v=57\/v=71\/v=87 then 2 else if v=23 then 4 else if v=22 then 14 else if v=20\/v=25\/v=38\/v=43\/v=52\/v=55\/v=58\/v=78\/v=85 then 120 else 2 ^ (fQ v).toNat-1
theorem ai2(v:Int)(w:World):Calls aj 205 #[v] w λe w'=>e=.returned (SC v:Int)/\w'=w:=by
 unfold SC;by_cases d:v=20;focus(subst d;simp only[reduceIte,Int.reduceEq,or_self,or_false])
 rotate_left;focus((have M:(v==20)=false:=by simpa using d);by_cases J:v=52;(focus(subst J;simp only[reduceIte,Int.reduceEq,or_true,or_self,or_false]));rotate_left;focus((have Q:(v==52)=false:=by simpa using J);by_cases K:v=58;(focus(subst K;simp only[reduceIte,Int.reduceEq,or_true,or_self,false_or]));rotate_left;focus((have U:(v==58)=false:=by simpa using K);by_cases j:v=38;(focus(subst j;simp only[reduceIte,Int.reduceEq,or_self,or_false]));rotate_left;focus((have N:(v==38)=false:=by simpa using j);by_cases H:v=43;(focus(subst H;simp only[reduceIte,Int.reduceEq,or_true,or_self,false_or]));rotate_left;focus((have O:(v==43)=false:=by simpa using H);simp only[d,J,K,j,H,or_self,if_false])))))
 all_goals(go_enter func205,ntmps205;go_wp2;go_ret;exact⟨rfl,rfl⟩)
theorem ai3(v:Int)(w:World)(hT:Tab w):Calls aj 206 #[v] w λe w'=>e=.returned (Yt v:Int)/\w'=w:=by
 unfold Yt;have hw:=pF v w hT;have hr:=lq v;by_cases ae:v=81;·subst ae;simp only[reduceIte,Int.reduceEq,or_self,false_or];go_enter func206,ntmps206;go_wp2;go_ret;exact⟨rfl,rfl⟩
 have aM:(v==81)=false:=by simpa using ae
 by_cases h6:v=6;·subst h6;simp only[reduceIte,Int.reduceEq,or_self,or_false];go_enter func206,ntmps206;go_wp2;go_ret;exact⟨rfl,rfl⟩
 have e6:(v==6)=false:=by simpa using h6
 by_cases h8:v=8;focus(subst h8)
 rotate_left;focus((have e8:(v==8)=false:=by simpa using h8);by_cases d:v=14;(focus(subst d));rotate_left;focus((have ai:(v==14)=false:=by simpa using d);by_cases j:v=15;(focus(subst j));rotate_left;focus((have ak:(v==15)=false:=by simpa using j);by_cases J:v=21;(focus(subst J));rotate_left;focus((have am:(v==21)=false:=by simpa using J);by_cases U:v=46;(focus(subst U));rotate_left;focus((have av:(v==46)=false:=by simpa using U);by_cases Z:v=57;(focus(subst Z));rotate_left;focus((have az:(v==57)=false:=by simpa using Z);by_cases ac:v=71;(focus(subst ac));rotate_left;focus((have aE:(v==71)=false:=by simpa using ac);by_cases ag:v=87;(·subst ag;simp only[reduceIte,Int.reduceEq,or_true,or_self,false_or];go_enter func206,ntmps206;go_wp2;go_ret;exact⟨rfl,rfl⟩);(have a1:(v==87)=false:=by simpa using ag);by_cases M:v=23;(·subst M;simp only[reduceIte,Int.reduceEq,or_self,false_or];go_enter func206,ntmps206;go_wp2;go_ret;exact⟨rfl,rfl⟩);(have ap:(v==23)=false:=by simpa using M);by_cases K:v=22;(·subst K;simp only[reduceIte,Int.reduceEq,or_self,false_or];go_enter func206,ntmps206;go_wp2;go_ret;exact⟨rfl,rfl⟩);(have an:(v==22)=false:=by simpa using K);by_cases H:v=20;(·subst H;simp only[reduceIte,Int.reduceEq,or_self,or_false];go_enter func206,ntmps206;go_wp2;go_ret;exact⟨rfl,rfl⟩);(have al:(v==20)=false:=by simpa using H);by_cases N:v=25;(focus(subst N));rotate_left;focus((have aq:(v==25)=false:=by simpa using N);by_cases O:v=38;(focus(subst O));rotate_left;focus((have ar:(v==38)=false:=by simpa using O);by_cases Q:v=43;(focus(subst Q));rotate_left;focus((have au:(v==43)=false:=by simpa using Q);by_cases V:v=52;(focus(subst V));rotate_left;focus((have aw:(v==52)=false:=by simpa using V);by_cases Y:v=55;(focus(subst Y));rotate_left;focus((have ax:(v==55)=false:=by simpa using Y);by_cases aa:v=58;(focus(subst aa));rotate_left;focus((have aD:(v==58)=false:=by simpa using aa);by_cases ad:v=78;(focus(subst ad));rotate_left;focus((have aL:(v==78)=false:=by simpa using ad);by_cases af:v=85;(·subst af;simp only[reduceIte,Int.reduceEq,or_true,or_self,false_or];go_enter func206,ntmps206;go_wp2;go_ret;exact⟨rfl,rfl⟩);(have aR:(v==85)=false:=by simpa using af);simp only[ae,h6,h8,d,j,J,U,Z,ac,ag,M,K,H,N,O,Q,V,Y,aa,ad,af,or_self,if_false];generalize fQ v=x at*;obtain⟨k,rfl⟩:=Int.eq_ofNat_of_zero_le hr.1;(have hk:k<=32:=by omega);rw[Int.toNat_natCast];(have hp:(2:Int) ^ k<=4294967296:=by have:(2:Nat) ^ k<=2 ^ 32:=Nat.pow_le_pow_right (by decide) hk;(have h2:((2 ^ k:Nat):Int)=(2:Int) ^ k:=by simp);omega);(have a4:(1:Int)<=2 ^ k:=by have:0<(2:Nat) ^ k:=Nat.pos_of_ne_zero (by simp);(have h2:((2 ^ k:Nat):Int)=(2:Int) ^ k:=by simp);omega);go_enter func206,ntmps206;go_wp2_with(first|((with_reducible refine hw.mono ?_);rintro e w1⟨rfl,rfl⟩));go_ret;exact⟨rfl,rfl⟩))))))))))))))
 all_goals(simp only[reduceIte,Int.reduceEq,or_true,or_self,or_false];go_enter func206,ntmps206;go_wp2;go_ret;exact⟨rfl,rfl⟩)
def uX (v n:Int):Bool:=decide (fQ v≠0)&&decide (0<=n)&&decide (n<2 ^ (fQ v).toNat)&&(decide (n<=Yt v) || decide (0<SC v)&&decide (SC v<=n))
theorem JG(v n:Int)(w:World)(Z:Tab w):Calls aj 160 #[v,n] w λe w'=>e=.returned (.bool (uX v n))/\w'=w:=by
 unfold uX;have K:=pF v w Z;have hm:=ai3 v w Z;have hs:=ai2 v w;have hr:=lq v;generalize fQ v=x at*;generalize Yt v=j at*;generalize SC v=d at*;obtain⟨k,rfl⟩:=Int.eq_ofNat_of_zero_le hr.1;have hk:k<=32:=by omega
 rw[Int.toNat_natCast];have r1:(decide ((k:Int)≠0)&&decide (0<=n)&&decide (n<2 ^ k)&&(decide (n<=j) || decide (0<d)&&decide (d<=n)))=(decide (k≠0)&&decide (0<=n)&&decide (n<2 ^ k)&&(decide (n<=j) || decide (0<d)&&decide (d<=n))):=by simp
 rw[r1];have ad:(1:Int)<=2 ^ k:=by
  have:0<(2:Nat) ^ k:=Nat.pos_of_ne_zero (by simp);have h2:((2 ^ k:Nat):Int)=(2:Int) ^ k:=by simp
  omega
 by_cases O:k=0;focus(subst O;rw[show(decide ((0:Nat)≠0)&&decide (0<=n)&&decide (n<2 ^ 0)&&(decide (n<=j) || decide (0<d)&&decide (d<=n)))=false from rfl])
 rotate_left;focus((have k1:((k:Int)==0)=false:=by simp;omega);rw[decide_eq_true O,Bool.true_and];by_cases h2:n<0;(focus(rw[decide_eq_false (show ¬0<=n by omega)];simp only[Bool.false_and]));rotate_left;focus((have Q:0<=n:=by omega);rw[decide_eq_true Q,Bool.true_and];by_cases N:n<2 ^ k;(focus((have d1:(n / 2 ^ k != 0)=false:=by rw[Int.ediv_eq_zero_of_lt Q N];rfl);rw[decide_eq_true N,Bool.true_and];by_cases U:n<=j;(focus(rw[decide_eq_true U,Bool.true_or];by_cases H:0<d;(focus(by_cases J:d<=n;go_enter func160,ntmps160;go_wp2_with(first|((with_reducible first|refine K.mono ?_|refine hm.mono ?_|refine hs.mono ?_);rintro e M⟨rfl,rfl⟩));go_ret;exact⟨rfl,rfl⟩;have Y:decide (d<=n)=false:=by simpa using J));rotate_left;focus(have V:decide (0<d)=false:=by simpa using H)));rotate_left 2;focus((have ac:decide (n<=j)=false:=by simpa using U);rw[ac,Bool.false_or];by_cases H:0<d;(focus(rw[decide_eq_true H,Bool.true_and];by_cases J:d<=n;(focus(rw[decide_eq_true J]));rotate_left;focus((have Y:decide (d<=n)=false:=by simpa using J);rw[Y])));rotate_left 2;focus((have V:decide (0<d)=false:=by simpa using H);rw[V,Bool.false_and]))));rotate_left 5;(focus((have aa: ¬n / 2 ^ k=0:=by intro e;have:=Int.lt_ediv_add_one_mul_self n (show(0:Int)<2 ^ k by omega);rw[e]at this;omega);(have d1:(n / 2 ^ k != 0)=true:=by simpa using aa);rw[decide_eq_false N,Bool.false_and];go_enter func160,ntmps160;go_wp2_with(first|((with_reducible refine K.mono ?_);rintro e M⟨rfl,rfl⟩));go_ret;exact⟨rfl,rfl⟩));all_goals(go_enter func160,ntmps160;go_wp2_with(first|((with_reducible first|refine K.mono ?_|refine hm.mono ?_|refine hs.mono ?_);rintro e M⟨rfl,rfl⟩));go_ret;exact⟨rfl,rfl⟩)))
 all_goals(go_enter func160,ntmps160;go_wp2_with(first|((with_reducible refine K.mono ?_);rintro e M⟨rfl,rfl⟩));go_ret;exact⟨rfl,rfl⟩)
section
section
variable (t:TypeId)
def Iz (a:UInt8) (n:Nat):UInt8:=UInt8.ofNat (a.toNat / 2 ^ n)
theorem Wp(a:UInt8)(n:Nat):(Iz a n).toNat=a.toNat / 2 ^ n:=by unfold Iz;rw[UInt8.toNat_ofNat'];have d:=a.toNat_lt;have j:a.toNat / 2 ^ n<=a.toNat:=Nat.div_le_self _ _;exact dF (by omega)
@[go_sem] theorem aci (a:UInt8) (yk:IntKind) (n:Int) (h0:0<=n) (hn:n<=8):binOp .shr t (q8 a) (.int yk n)=pure (q8 (Iz a n.toNat)):=by
 have e:((a.toNat:Int) / 2 ^ n.toNat)=((Iz a n.toNat).toNat:Int):=by rw[Wp];simp
 show Op.shift .shr .u8 _ yk _=_;rw[shift_shr_u8 yk _ _ h0 hn];exact congrArg (fun n=>(pure (Value.int .u8 n):Sem Value)) e
@[go_sem] theorem ai4 (a:UInt8):binOp .and t (q8 a) (.int .u8 1)=pure (q8 (a &&& 1)):=by
 have e:IntKind.u8.wrap ((aQ 8 (a.toNat:Int) &&& aQ 8 1).toNat:Int)=((a &&& 1).toNat:Int):=by rw[oD,IntKind.wrap_u8];have h:(a.toBitVec &&& aQ 8 1).toNat=(a &&& 1).toNat:=rfl;have:=(a &&& 1).toNat_lt;rw[h];omega
 show Op.intBits .and .u8 _ _=_;exact congrArg (fun n=>(pure (Value.int .u8 n):Sem Value)) e
theorem SE(a:UInt8):(a &&& 1).toNat=a.toNat % 2:=by simp
@[go_sem] theorem apV (a b:UInt8):binOp .or t (q8 a) (q8 b)=pure (q8 (a ||| b)):=by
 have e:IntKind.u8.wrap ((aQ 8 (a.toNat:Int) ||| aQ 8 (b.toNat:Int)).toNat:Int)=((a ||| b).toNat:Int):=by rw[oD,oD,IntKind.wrap_u8];have h:(a.toBitVec ||| b.toBitVec).toNat=(a ||| b).toNat:=rfl;have:=(a ||| b).toNat_lt;rw[h];omega
 show Op.intBits .or .u8 _ _=_;exact congrArg (fun n=>(pure (Value.int .u8 n):Sem Value)) e
theorem oK(n:Nat):aQ 64 (n:Int)=bT 64 n:=by rfl
theorem afP(n b:Nat)(hm:n<4294967296)(d:b<2):bits .or .i64 ((n:Int)*2) (b:Int)=((2*n+b:Nat):Int):=by
 show IntKind.i64.wrap ((aQ 64 ((n:Int)*2) ||| aQ 64 (b:Int)).toNat:Int)=_;rw[show(n:Int)*2=((2*n:Nat):Int) by omega,oK,oK,BitVec.toNat_or,BitVec.toNat_ofNat,BitVec.toNat_ofNat,dF (by omega),dF (by omega)];have h:2*n ||| b=2*n+b:=by have:=Nat.shiftLeft_add_eq_or_of_lt (i:=1) (b:=b) (by omega) n;rw[Nat.shiftLeft_eq]at this;rw[show 2*n=n*2 ^ 1 by omega];exact this.symm
 rw[h,IntKind.wrap_i64];omega
theorem Zz(x:Int)(d:0<=x)(j:x<9223372036854775808):binOp .and t x (1:Int)=pure (.int .i64 (x % 2:Int)):=by
 obtain⟨n,rfl⟩:=Int.eq_ofNat_of_zero_le d;have e:IntKind.i64.wrap ((aQ 64 (n:Int) &&& aQ 64 1).toNat:Int)=((n:Int) % 2):=by rw[oK,show aQ 64 1=bT 64 1 from rfl,BitVec.toNat_and,BitVec.toNat_ofNat,BitVec.toNat_ofNat,dF (by omega),dF (by decide),Nat.and_one_is_mod,IntKind.wrap_i64];omega
 show Op.intBits .and .i64 _ _=_;exact congrArg (λn=>(pure (Value.int .i64 n):Sem Value)) e
end
end
structure rY (w:World) (p:Nat) (bs:List UInt8) (at_:Nat) (A:Option Addr) (c:Nat):Prop where
  blk:fK w p 308 #[.slice A bs.length c,.int .i64 at_]
  bytes:aq2 w A c bs
  far: ∀a,A=some a->a.block≠p
theorem rY.below(h:rY w p bs at_ A c)(d:w w'):rY w' p bs at_ A c:=⟨h.blk.below d h.blk.lt,h.bytes.below d,h.far⟩
theorem ai5(h:rY w p bs at_ A c)(N:bs.length<=65536)(K:at_<=8*bs.length):Calls aj 242 #[.pointer p] w λe w'=>e=.returned (.int .i64 (8*(bs.length:Int)-at_))/\w w':=by
 have hB:=h.blk;generalize bs.length=n at*;go_enter func242,ntmps242;go_wp2_with fail;refine ara (by kernel_rfl) ?_;repeat(first|(apply gX.want rfl;(·intro w' d j H J;have M:=(hB.below d hB.lt).cell;go_wp2_with(fail);first|exact aH _ _);(·simp only[aP,ay,aA,aB];rfl)))
 refine gX.nil ?_;intro w' d;go_wp2_with fail;go_ret;exact⟨rfl,d⟩
def afQ (bs:List UInt8) (i:Nat):Nat:=((Iz (nth bs (i / 8)) (7-i % 8)) &&& 1).toNat
theorem Yu(bs:List UInt8)(i:Nat):afQ bs i<2:=by unfold afQ;rw[SE];omega
def Mc (bs:List UInt8) (at_:Nat):Nat->Nat
 |0=>0
 |k+1=>2*Mc bs at_ k+afQ bs (at_+k)
theorem Px(bs:List UInt8)(at_:Nat): ∀k,Mc bs at_ k<2 ^ k
 |0=>by simp[Mc]
 |k+1=>by have d:=Px bs at_ k;have j:=Yu bs (at_+k);rw[Mc,Nat.pow_succ];omega
def uY (n at_:Nat) (width:Int):Int:=if width<1\/32<width then 1 else if 8*(n:Int)-at_<width then 10 else 0
def EM (bs:List UInt8) (at_:Nat) (width:Int):Nat:=if uY bs.length at_ width=0 then Mc bs at_ width.toNat else 0
def xH (n at_:Nat) (width:Int):Nat:=if uY n at_ width=0 then at_+width.toNat else at_
def arR (w:World) (p:Nat) (bs:List UInt8) (at_:Nat) (A:Option Addr) (c:Nat) (width:Int) (e:Ending) (w':World):Prop:=e=.returned (.tuple #[.int .i64 (EM bs at_ width),.int .i64 (uY bs.length at_ width)])/\Stp [(p,some 1)] w w'/\rY w' p bs (xH bs.length at_ width) A c
theorem acj(h:rY w p bs at_ A c)(hl:bs.length<=65536)(ha:at_<=8*bs.length)(j:Int):Calls aj 212 #[.pointer p,j] w (arR w p bs at_ A c j):=by
 unfold arR EM xH;have hB:=h.blk;have Z:=hB.cell;have H:uY bs.length at_ j=if j<1\/32<j then 1 else if 8*(bs.length:Int)-at_<j then 10 else 0:=rfl
 generalize uY bs.length at_ j=E at*;by_cases M:j<1
 ·obtain rfl:E=1:=by rw[H,if_pos (.inl M)]
  clear H;rw[if_neg (by decide),if_neg (by decide)];have U:decide (j<1)=true:=by simpa using M
  go_enter func212,ntmps212;go_wp2_with fail;go_ret2;exact⟨rfl,Stp.refl _ _,h⟩
 by_cases N:32<j
 ·obtain rfl:E=1:=by rw[H,if_pos (.inr N)]
  clear H;rw[if_neg (by decide),if_neg (by decide)];have U:decide (32<j)=true:=by simpa using N
  go_enter func212,ntmps212;go_wp2_with fail;go_ret2;exact⟨rfl,Stp.refl _ _,h⟩
 rw[if_neg (by omega)]at H;obtain⟨m,rfl⟩:=Int.eq_ofNat_of_zero_le (show 0<=j by omega);have ac:=ai5 h hl ha;by_cases O:8*(bs.length:Int)-at_<m
 ·obtain rfl:E=10:=by rw[H,if_pos O]
  clear H;rw[if_neg (by decide),if_neg (by decide)];have U:decide (8*(bs.length:Int)-at_<m)=true:=by simpa using O
  go_enter func212,ntmps212;go_wp2_with(first|((with_reducible refine ac.mono ?_);rintro fU fJ⟨rfl,J⟩));go_ret2;exact⟨rfl,Stp.of_below J _,h.below J⟩
 obtain rfl:E=0:=by rw[H,if_neg O]
 clear H;rw[if_pos rfl,if_pos rfl,Int.toNat_natCast];have U:decide (8*(bs.length:Int)-at_<m)=false:=by simpa using O
 have aE:1<=m:=by omega
 have aL:m<=32:=by omega
 have aw:at_+m<=8*bs.length:=by omega
 clear M N O;go_enter func212,ntmps212;go_wp2_with(first|((with_reducible refine ac.mono ?_);rintro fU fJ⟨rfl,J⟩));have h':=h.below J;have Q:=Stp.of_below J [(p,some 1)];clear J Z hB U ac ha;go_loopw [6,18] (λn i wr=> ∃k:Nat,k<=m/\n=.int .i64 (Mc bs at_ k:Nat)/\i=.int .i64 k/\Stp [(p,some 1)] w wr/\rY wr p bs (at_+k) A c) (λ_ i _=>m-(intOf i).toNat);case atStart=>exact⟨0,aV _,rfl,rfl,Q,h'⟩
 case round=>
  clear h h' Q;obtain⟨k,hk,rfl,rfl,Q,h⟩:=hrel;have hB:=h.blk;have Z:=hB.cell;by_cases aD:k<m
  ·have ap:Mc bs at_ k<4294967296:=aU (Px bs at_ k) (aG (Nat.pow_le_pow_right (by decide) (by omega:k<=32)) (by decide));obtain⟨b,off,rfl,hb,am⟩:=h.bytes.at_ (k:=(at_+k) / 8) (by omega);have af:Mc bs at_ (k+1)=2*Mc bs at_ k+((Iz (nth bs ((at_+k) / 8)) (7-(at_+k) % 8)) &&& 1).toNat:=rfl;have ad:=Yu bs (at_+k);unfold afQ at ad;(have az:at_+k<524288:=by omega);have HN:=ah af;clear af;generalize Mc bs at_ k=n0 at*;generalize nth bs ((at_+k) / 8)=ai at*;generalize hj:at_+k=d at*;(have hq:(d:Int) / 8=((d / 8:Nat):Int):=by omega);(have hr:(d:Int) % 8=((d % 8:Nat):Int):=by omega);(have aR:d / 8<bs.length:=by omega);generalize d / 8=q at*;generalize d % 8=r at*;have ar:=aci 5 ai .i64 (7-(r:Int)) (by omega) (by omega);rw[show(7-(r:Int)).toNat=7-r by omega]at ar;go_wp2_with fail;apply qp (Below wr) (λW=>aq3 gY 1) (λ_ _ _ M N=>M.trans N) (λ_=>Below wr) (λ_ _ _ h=>h) (λ_ _=>True) (λ_=>trivial) (λ_ _ _ _ _ _ _=>trivial);(case lX=>intro u;simp only[bV,List.dropLast,aq9,aP,ay,aA,aB,aT,aJ];rfl);(case hm=>kernel_rfl);(case hB=>kernel_rfl);(case hA=>kernel_rfl);case hap=>kernel_rfl
   repeat(first
      |(apply kE.is
        ·
          (intro u w' hk aM K
           simp[fH,aC,Is]at K
           refine fC ?_ ?_
           ·
             first
             |rfl
           intro ag Y
           have an:=(hB.below hk hB.lt).cell;have au:=(hk.cell (p:=⟨b,off+q,none⟩) hb).trans am
           go_wp2_with (fail)
           try simp only[K]at Y
           refine Y _ _ ?_ rfl
           first |exact aH _ _)))
   refine kE.last ?_ ?_;(·intro i' d Φ ax _ hj v W W' Ez ht;have hm:=bP hj;simp only[aZ,bQ,bJ,dH,or_false]at hm;repeat(first|(rcases hm with rfl |hm;exact Ez)));intro u w2 aa _ K;simp only[gQ]at K;refine⟨rfl,?_⟩;intro ag Y;have ae:=K 22 _ rfl;simp only[Is]at ae;clear K;simp only[ae];have V:=hB.below aa hB.lt;have an:=V.cell;have av:=V.frozen 1;go_wp2_with fail;go_roundw;(case rel=>have al:aq2 (w2.setCell ⟨p,1,none⟩ (.int .i64 ((d:Int)+1))) (some ⟨b,off,none⟩) c bs:=(h.bytes.below aa).apart V (by simp[is8]) (by simp[dD]) λg hg=>aN w2 ⟨p,1,none⟩ _ g hg;have aq:=(Q.trans (Stp.of_below aa _)).trans (Stp.cell (w:=w2) p 1 (.int .i64 ((d:Int)+1)));have ak:=V.iV 1 (.int .i64 ((d:Int)+1));refine⟨k+1,by omega,by rw[HN.out,<-afP n0 _ ap ad,SE];simp,by go_num,aq,⟨?_,al,h.far⟩⟩;rw[show at_+(k+1)=d+1 by omega];simpa using ak);case measure=>simp[intOf];omega
  ·(obtain rfl:k=m:=by omega);clear Z;go_wp2_with fail;go_ret2;exact⟨rfl,Q,h⟩
inductive Pt where
  |nil
  |pl (v:Int) (r:Pt)
  |grp (k:Int) (l r:Pt)
def Pt.row:List Int->Pt
 | []=> .nil
 |v::l=> .pl v (Pt.row l)
def Pt.app:Pt->Pt->Pt
 | .nil,q=>q
 | .pl v r,q=> .pl v (r.app q)
 | .grp k l r,q=> .grp k l (r.app q)
def Pt.ands:List Pt->Pt
 | []=> .nil
 |p::l=>p.app (Pt.ands l)
def Pt.len:Pt->Nat
 | .nil=>0
 | .pl _ r=>r.len+1
 | .grp _ _ r=>r.len+1
def Pt.size:Pt->Nat
 | .nil=>0
 | .pl _ r=>r.size+1
 | .grp _ l r=>l.size+r.size+1
def lu (id:Int):Option Pt:=if id=0 then some (Pt.ands [Pt.row [7,8,4],.nil,Pt.row [13,14,15,16,17,18],.grp 3 (Pt.row [19]) .nil,Pt.row [20,21,22,23],.grp 2 (Pt.row [24]) .nil]) else if id=1 then some (Pt.ands [Pt.row [7,8,4],Pt.row [74],Pt.row [13,14,15,16,17,18],.grp 3 (Pt.row [19]) .nil,Pt.row [20,21,22,23],.grp 2 (Pt.row [24]) .nil]) else if id=3 then some (Pt.ands [Pt.row [6,7,8],Pt.row [84,27],.grp 1 (Pt.row [10]) .nil,Pt.row [85,87,86]]) else if id=5 then some (Pt.ands [Pt.row [6,7,8],Pt.ands [Pt.ands [Pt.row [44,12],.grp 2 (Pt.row [10]) .nil,Pt.row [11,45,46,47]],Pt.row [27],.grp 1 (Pt.ands [Pt.row [44,12],.grp 2 (Pt.row [10]) .nil,Pt.row [11,45,46,47]]) .nil]]) else if id=11 then some (Pt.ands [Pt.row [7,75,76,77,78,79,80,81,27],.grp 1 (Pt.row [82]) .nil,Pt.row [27],.grp 1 (Pt.row [83]) .nil]) else if id=15 then some (Pt.ands [Pt.row [6,7,8,25,26,27],.grp 1 (Pt.ands [Pt.row [28],Pt.ands [Pt.row [29],.grp 2 (Pt.row [30,31]) .nil]]) .nil,Pt.row [32],Pt.ands [Pt.row [29],.grp 2 (Pt.row [30,31]) .nil],Pt.row [33],.grp 2 (Pt.row [34,35]) .nil,Pt.row [36],.grp 2 (Pt.row [37,38]) .nil,Pt.row [39],.grp 2 (Pt.row [40,41,42,43]) .nil]) else if id=21 then some (Pt.ands [Pt.row [6,7,8],Pt.ands [Pt.row [48,49,50],Pt.row [27],.grp 1 (Pt.row [48,49,50]) .nil]]) else if id=27 then some (Pt.ands [Pt.row [6,7,8],Pt.ands [Pt.row [51,52,53,27],.grp 1 (Pt.row [54,55]) .nil],Pt.row [27],.grp 1 (Pt.ands [Pt.row [51,52,53,27],.grp 1 (Pt.row [54,55]) .nil]) .nil]) else if id=42 then some (Pt.row [6,7,62,10,63,64,64,65]) else if id=57 then some (Pt.row [6,7,66,67,68]) else if id=58 then some (Pt.ands [Pt.row [6,7,8],Pt.row [69,70,71,27],.grp 1 (Pt.row [72,73]) .nil]) else if id=80 then some (Pt.ands [Pt.row [6,7,8],Pt.ands [Pt.row [56,57,58,59,60,61],Pt.row [27],.grp 1 (Pt.row [56,57,58,59,60,61]) .nil]]) else none
def jg {σ:Type} (f:σ->Except Int σ):Nat->σ->Except Int σ
 |0,s=> .ok s
 |n+1,s=>match f s with
   | .error e=> .error e
   | .ok s'=>jg f n s'
def qC (k last:Int):Nat:=if k=1 then last.toNat else if last=1\/k=3/\last=2 then 1 else 0
def mV {σ:Type} (val:Int->σ->Except Int (Int × σ)):Pt->Int->σ->Except Int σ
 | .nil,_,s=> .ok s
 | .pl v r,_,s=>match val v s with
   | .error e=> .error e
   | .ok (n,s')=>mV val r n s'
 | .grp k l r,last,s=>match jg (mV val l 0) (qC k last) s with
   | .error e=> .error e
   | .ok s'=>mV val r last s'
def lC (v:Int) (s:List Int × List (Int × Int)):Except Int (Int × (List Int × List (Int × Int))):=if v=7 then .ok (0,s.1,s.2++ [(0,fQ v)]) else match s.1 with
 | []=> .error 20
 |n::rest=>if uX v n=true then .ok (n,rest,s.2++ [(n,fQ v)]) else .error 20
structure Pk where
  id:Int
  v:List Int
  deriving DecidableEq
def kG (p:Pk):Except Int (List (Int × Int)):=match lu p.id with
 |none=> .error 50
 |some q=>match mV lC q 0 (p.v,[(p.id,fQ 5)]) with
   | .error e=> .error e
   | .ok (rest,l)=>if rest= [] then .ok l else .error 20
def arf (l:List (Int × Int)):Int:=(l.map (·.2)).sum
def Yv (id:Int):Bool:=decide (id=0) || decide (id=1) || decide (id=11)
def vS (l:List (Int × Int)) (i:Nat) (n:Int):List (Int × Int):=l.modify i fun x=>(n,x.2)
def mO (p:Pk):Except Int (List (Int × Int)):=match kG p with
 | .error e=> .error e
 | .ok l=>if 8184<arf l then .error 2 else .ok (vS l (if Yv p.id=true then 1 else 2) (arf l))
structure Up where
  at_:Nat
  v:List Int
  size:Int
  deriving DecidableEq
def zK (bs:List UInt8) (v:Int) (s:Up):Except Int (Int × Up):=if uY bs.length s.at_ (fQ v)≠0 then .error (uY bs.length s.at_ (fQ v)) else if uX v (EM bs s.at_ (fQ v))=false then .error 20 else .ok (EM bs s.at_ (fQ v),if v=7 then {s with at_:=xH bs.length s.at_ (fQ v),size:=EM bs s.at_ (fQ v)} else {s with at_:=xH bs.length s.at_ (fQ v),v:=s.v++ [(EM bs s.at_ (fQ v):Int)]})
theorem aok:bits .and .u64 (IntKind.u64.wrap (-8)) 31=24:=by decide
theorem k_3:bits .and .u64 3 31=3:=by decide
theorem acn(x:BitVec 32)(w:World):Calls aj 239 #[q32 x,(-8:Int)] w λe w'=>e=.returned (q32 (x.rotateLeft 24))/\w=w':=by have h:=aok;go_enter func239,ntmps239;go_wp2;go_ret;repeat' constructor
theorem aia(x:BitVec 32)(w:World):Calls aj 239 #[q32 x,(3:Int)] w λe w'=>e=.returned (q32 (x.rotateLeft 3))/\w=w':=by have h:=k_3;go_enter func239,ntmps239;go_wp2;go_ret;repeat' constructor
def arC (k:K4) (i:Nat):Array Value:=((eY 27).map fun j=>if j<i then q32 (rk k j) else q32 0).toArray
def lA (k:K4) (i:Nat):Array Value:=((eY 3).map fun j=>q32 (lk k (i+(j+3-i % 3) % 3))).toArray
theorem xI(k:K4)(i:Nat):(arC k i).size=27:=by rfl
theorem aco(k:K4)(i:Nat):(arC k i).setIfInBounds i (q32 (rk k i))=arC k (i+1):=by
 apply Array.ext;·simp[arC]
 ·intro j H d;simp only[arC,List.size_toArray,eU,List.length_range]at d;simp only[arC,List.getElem_toArray,List.getElem_map,List.getElem_range];by_cases h:i=j;·grind
  ·grind
theorem acp(k:K4)(i:Nat):(arC k i).all (·.oneCell')=true:=by rw[Array.all_eq_true_iff_forall_mem];intro v d;simp only[arC,List.mem_toArray,List.mem_map]at d;obtain⟨j,_,rfl⟩:=d;split <;> rfl
theorem Yw(k:K4)(i d:Nat)(j:d<27):(arC k i)[d]? =some (if d<i then q32 (rk k d) else q32 0):=by simp[arC,j]
theorem ZA(k:K4)(d:Nat)(j:d<27):(arC k 27)[d]? =some (q32 (rk k d)):=by rw[Yw k 27 d j,if_pos j]
theorem alR(k:K4)(i:Nat):(lA k i)[i % 3]? =some (q32 (lk k i)):=by
 have h:i % 3<3:=Nat.mod_lt _ (by decide);have e:(i % 3+3-i % 3) % 3=0:=by omega
 simp[lA,h]
theorem ai6(k:K4)(i:Nat):(lA k i).setIfInBounds (i % 3) (q32 (lk k (i+3)))=lA k (i+1):=by
 apply Array.ext;·simp[lA]
 ·intro d j H;have J:d<3:=by assumption
  by_cases h:i % 3=d;·subst h;(have e:i+3=i+1+(i % 3+3-(i+1) % 3) % 3:=by omega);simp only[lA,ay,List.getElem_toArray,List.getElem_set_self,List.getElem_map,List.getElem_range];grind
  ·(have e:i+(d+3-i % 3) % 3=i+1+(d+3-(i+1) % 3) % 3:=by omega);simp only[lA,ay,List.getElem_toArray,List.getElem_set_ne h,List.getElem_map,List.getElem_range];rw[e]
theorem acr(k:K4)(w:World):Calls aj 238 #[.agg #[q32 k.k0,q32 k.k1,q32 k.k2,q32 k.k3]] w λe w'=>e=.returned (arC k 27)/\w w':=by
 go_enter func238,ntmps238;go_wp2;go_loopw [4,16] (λr c wr=> ∃i n:Nat,i<=27/\c=.int .i64 i/\r=q32 (rk k i)/\wr=((((w.alloc (.cells #[q32 k.k0,q32 k.k1,q32 k.k2,q32 k.k3] 32)).alloc (.cells (arC k 0) 335)).alloc (.cells (arC k i) 335)).alloc (.cells (lA k i) 363)).drewN n) (λ_ c _=>27-(intOf c).toNat);case atStart=>exact⟨0,0,by omega,rfl,rfl,rfl⟩
 case round=>
  obtain⟨i,n,hi,rfl,rfl,rfl⟩:=hrel;by_cases J:i<27;·have K:=Yw k i i J;have M:=alR k i;have H:=aco k i;have d:=ah H;have j:=ah (ai6 k i);go_wp2_with((with_reducible refine(acn _ _).mono ?_);rintro e w'⟨rfl,rfl⟩);go_quiet((go_at_call 239;exact Calls.quiet_of_same ((aia _ _).mono λ_ _ ⟨a,b⟩=>⟨a,b.symm⟩)));go_wp2;refine⟨⟨i+1,n+nq,by omega,by go_num,rfl,?_⟩,by simp[intOf];omega⟩;rw[<-d.out,<-j.out,Nq,afo _ _ _ _ _ (by simp),Ya _ _ _ _ _ _ (by simp),Nq,Ya _ _ _ _ _ _ (by simp),World.drewN_drewN];rfl
  ·(obtain rfl:i=27:=by omega);go_wp2_with(first|(with_reducible refine wpList_load_row rfl 335 (.tmp 3) rfl (w.heap.size+1+1) rfl 335 (arC k 27) (0,0) _ ?_ underlying335 rfl (by rw[xI];kernel_rfl) ?_)|(with_reducible refine wpList_store_row rfl 335 (.tmp 2) (.tmp 43) rfl (w.heap.size+1) (arC k 27) rfl rfl 335 (arC k 0) ?_ (by rw[xI];kernel_rfl) (by rw[xI,xI]) (acp k 27) ?_));(·exact(((fK.newAt _ _ _ _ (by simp)).alloc _).drewN n));(·exact((((fK.newAt _ _ _ _ (by simp)).alloc _).alloc _).drewN n));·refine bodyPost_ret (v:=.agg (arC k 27)) (results_cell_row results238 _ _ (w.heap.size+1) 335 (arC k 27) (0,0) _ rfl ?_ underlying335 rfl (by rw[xI];kernel_rfl)) rfl ⟨rfl,?_⟩;(·exact fK.row (old:=arC k 0) ((((fK.newAt _ _ _ _ (by simp)).alloc _).alloc _).drewN n) _);·exact jk (aq3 ((((jm.alloc (by simp) _).alloc (by simp <;> omega) _).alloc (by simp <;> omega) _)) n) (by omega) _
theorem Wq(w:World):(isAgg 30).run aj w=.ok false w:=by simp
theorem afR(k:K4)(i:Nat)(hi:i<27)(w:World):(Instr.index 335 (arC k 27) i).run aj w=.ok (q32 (rk k i)) w:=LQ 335 30 27 _ _ _ _ underlying335 Wq (by kernel_rfl) (by omega) (by omega) (ZA k i hi) w
theorem acs(k:K4)(i:Nat)(p:BitVec 32 × BitVec 32):OV k (i+1) p=ash (rk k i) (OV k i p):=rfl
theorem acu(k:K4)(x:BitVec 64)(w:World):Calls aj 203 #[.agg #[q32 k.k0,q32 k.k1,q32 k.k2,q32 k.k3],q64 x] w λe w'=>e=.returned (q64 (Enc k x))/\w w':=by
 go_enter func203,ntmps203;go_wp2_with((with_reducible refine(acr _ _).mono ?_);rintro e w'⟨rfl,H⟩);go_loop [5,6,16] (λu v c=> ∃i:Nat,i<=27/\c=.int .i64 i/\u=q32 (OV k i (arv x)).1/\v=q32 (OV k i (arv x)).2) (λ_ _ c=>27-(intOf c).toNat);case atStart=>exact⟨0,by omega,rfl,rfl,rfl⟩
 case round=>
  obtain⟨i,hi,rfl,rfl,rfl⟩:=hrel;have d:=ah (acs k i (arv x));generalize K:OV k i (arv x)=p at*;by_cases J:i<27;·have M:=afR k i J;go_wp2_with(first|((with_reducible first|refine(acn _ _).mono ?_|refine(aia _ _).mono ?_);rintro e w'⟨rfl,rfl⟩));go_round;(case rel=>exact⟨i+1,by omega,by go_num,by rw[d.out];rfl,by rw[d.out];rfl⟩);case measure=>simp[intOf];omega
  ·(obtain rfl:i=27:=by omega);have j:=ah K;go_wp2;go_ret;refine⟨?_,iP H⟩;unfold Enc;rw[j.out];rfl
end Go.Proofs.YthnmgjngniciaaaGreatDoor
