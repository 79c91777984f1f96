/- Parts. -/
import Derived.Test.YthnmgjngniciaaaGreatDoorM07
import Derived.Test.YthnmgjngniciaaaGreatDoorM01
import Derived.Test.YthnmgjngniciaaaGreatDoorChecked
import Derived.Laws.BytesArg
import Derived.Laws.IdiomStrings
import Derived.Laws.Strings
import Derived.Test.YthnmgjngniciaaaGreatDoorM09
import Derived.Shelf.Bytes.SlJoin
import Derived.Shelf.Bytes.SlEqualAll
import Derived.Test.YthnmgjngniciaaaGreatDoorM17
set_option linter.all false
set_option maxHeartbeats 16000000
set_option maxRecDepth 8000
open Array renaming getElem?_eq_none→dI
open BitVec renaming ofInt→aQ,ofNat→bT
open Bool renaming and_eq_true→bM,false_eq_true→bU
open List renaming cons_append→bQ,eq_nil_of_length_eq_zero→dw,getD_eq_getElem?_getD→bH,getElem?_cons_succ→fB,getElem?_cons_zero→eP,getElem?_eq_getElem→aI,getElem?_eq_none→dQ,getElem?_map→bW,length_cons→bK,map→bV,setIfInBounds_toArray→ay,set_cons_succ→aB,set_cons_zero→aA,take_of_length_le→aY
open Nat renaming le_refl→aW,lt_or_ge→eu,mod_eq_of_lt→dF,reduceAdd→aT,zero_add→aJ,zero_le→aV
open Option renaming getD_some→eG,map_some→eF
open Option.some renaming injEq→aO
namespace Go.Proofs.YthnmgjngniciaaaGreatDoor
open Go.RowKit Go.Shelf Tryz
open Act renaming put→aP
open Addr.mk renaming injEq→cZ
open Below renaming refl→aH
open Go.Lib renaming hid→ah
open Region renaming binds→aC,wanted→aF
open Tryz renaming prog→aj,underlying3→bG,underlying4→dL,underlying45→dW
open Value renaming oneCell'→aK
open Value.slice renaming injEq→dV
variable{bs:List UInt8}{v:Value}{w:World}
theorem Ur(lo hi t:Int)(g:Nat)(w:World)(hc:w.cell? ⟨g,0,none⟩=some (.int .i64 t)):Calls aj 172 #[.int .i64 lo,.int .i64 hi,.pointer g] w λe w'=>e=.returned (.bool (decide (lo<=t)&&decide (t<=hi)))/\w'=w:=by
 by_cases d:lo<=t
 ·have f1:decide (lo<=t)=true:=by grind
  rw[f1,Bool.true_and];go_enter func172,ntmps172;go_wp2;go_ret;simp
 ·have f1:decide (lo<=t)=false:=by grind
  rw[f1,Bool.false_and];go_enter func172,ntmps172;go_wp2;go_ret;simp
def adH (l a b:Int) (f:Bool) (t now:Int):Bool:=decide (now-b<=t)&&decide (t<=now+a)&&(f || decide (l+1<=t)&&decide (t<=4294967294))
def Dl (l a b:Int) (f:Bool) (t now:Int):Int:=if(um l a b&&lJ t&&lJ now)=true then(if adH l a b f t now=true then 0 else 110) else 1
def ase (l a b:Int) (f:Bool) (t now:Int):Array Value:=if Dl l a b f t now=0 then #[.int .i64 t,.int .i64 a,.int .i64 b,.bool false] else gv
theorem Bd{n:Int}(h:lJ n=true):0<=n/\n<=4294967294:=by unfold lJ at h;grind
theorem agE(l a b:Int)(f:Bool)(t now:Int)(w:World):Calls aj 120 #[.agg #[.int .i64 l,.int .i64 a,.int .i64 b,.bool f],.int .i64 t,.int .i64 now] w λe w'=>e=.returned (.tuple #[.agg (ase l a b f t now),.int .i64 (Dl l a b f t now)])/\w w':=by
 have d:Own w _ [_,_,_]:=Own.start3 w 36 3 36 #[.int .i64 l,.int .i64 a,.int .i64 b,.bool f] #[.int .i64 t] gv;have ad:=d.b0.cell;have ae:=d.b1.cell;have af:=d.b2.cell;have ag:=d.b0.frozen 0;have ac:=d.b0.frozen 3;have Q:=λW=>ab7 l a b f W;have U:=λW=>uV t W;have V:=λW=>uV now W;unfold ase Dl;have N:=λW hc=>Ur (now-b) (now+a) t (w.heap.size+1) W hc;have O:=λW hc=>Ur (l+1) 4294967294 t (w.heap.size+1) W hc;rcases hm:um l a b with _ |_;focus(rw[hm]at Q;simp only[Bool.false_and,bU,if_false])
 rotate_left;focus(rw[hm]at Q;have aa:=hm;unfold um at aa;simp only[bM,Bool.or_eq_true,decide_eq_true_eq]at aa;obtain⟨⟨ra,rb⟩,rl⟩:=aa;have ra:=Bd ra;have rb:=Bd rb;(have ai: -1<=l/\l<=4294967294:=by rcases rl with h |h;(·omega);·have:=Bd h;omega);rcases ht:lJ t with _ |_;(focus(rw[ht]at U;simp only[Bool.and_false,Bool.false_and,bU,if_false]));rotate_left;focus(rw[ht]at U;have rt:=Bd ht;rcases hn:lJ now with _ |_;(focus(rw[hn]at V;simp only[Bool.and_false,bU,if_false]));rotate_left;·rw[hn]at V;have rn:=Bd hn;simp only[Bool.and_self,if_true];unfold adH;(have c4:decide (t<=4294967294)=true:=by grind);rw[c4,Bool.and_true]at O ⊢;by_cases c1:now-b<=t;(focus((have d1:decide (now-b<=t)=true:=by grind);rw[d1,Bool.true_and]at N ⊢;by_cases c2:t<=now+a;(·(have d2:decide (t<=now+a)=true:=by grind);rw[d2]at N ⊢;rw[Bool.true_and];rcases f with _ |_;(focus(rw[Bool.false_or];by_cases c3:l+1<=t;(focus((have d3:decide (l+1<=t)=true:=by grind);rw[d3]at O ⊢;simp only[if_true];go_enter func120,ntmps120;go_wp2_with(first|((with_reducible refine gK d ?_ _ rfl rfl _ underlying36 rfl (by kernel_rfl) ?_);(·first|rfl|(simp[aF,yielded];done)))|((with_reducible refine(Q _).mono ?_);rintro e H⟨rfl,j⟩;replace d:=d.grow j;have J:=d.b0.cell;have M:=d.b1.cell;have K:=d.b2.cell;have Z:=d.b0.frozen 0;have Y:=d.b0.frozen 3)|((first|(with_reducible refine(U _).mono ?_)|(go_at_call 80;(with_reducible refine(V _).mono ?_))|(go_at_call 172;(with_reducible refine(N _ (by simpa using M 0)).mono ?_))|(go_at_call 172;(with_reducible refine(O _ (by grind)).mono ?_)));rintro e H⟨rfl,rfl⟩)|((with_reducible first|refine jq 0 (.int .i64 t) d rfl 3 _ _ rfl rfl rfl (by kernel_rfl) ?_ rfl ?_|refine jq 3 (.bool false) d rfl 4 _ _ rfl rfl rfl (by kernel_rfl) ?_ rfl ?_);(·simp);intro H j J K;replace d:=j;clear j)|((with_reducible refine jv (#[.int .i64 t,.int .i64 a,.int .i64 b,.bool false]) d rfl _ _ rfl rfl rfl (by kernel_rfl) rfl ?_ ?_);(·(simp[aK];done));intro H j J K;replace d:=j))));rotate_left;focus((have d3:decide (l+1<=t)=false:=by grind);rw[d3]at O ⊢;simp only[bU,if_false];rw[if_neg (by decide)];go_enter func120,ntmps120;go_wp2_with(first|((with_reducible refine gK d ?_ _ rfl rfl _ underlying36 rfl (by kernel_rfl) ?_);(·rfl))|(go_at_call 46;(with_reducible refine(Q _).mono ?_);rintro e H⟨rfl,j⟩;replace d:=d.grow j;have J:=d.b0.cell;have M:=d.b1.cell;have K:=d.b2.cell;have Z:=d.b0.frozen 0;have Y:=d.b0.frozen 3)|((first|(go_at_call 80;(with_reducible refine(U _).mono ?_))|(go_at_call 80;(with_reducible refine(V _).mono ?_))|(go_at_call 172;(with_reducible refine(N _ (by simpa using M 0)).mono ?_))|(go_at_call 172;(with_reducible refine(O _ (by grind)).mono ?_)));rintro e H⟨rfl,rfl⟩)|((with_reducible refine jv gv d rfl _ _ rfl rfl rfl (by kernel_rfl) rfl ?_ ?_);(·(simp[aK];done));intro H j J K;replace d:=j)))));rotate_left 2;(focus(simp only[Bool.true_or,if_true];go_enter func120,ntmps120;go_wp2_with(first|((with_reducible refine gK d ?_ _ rfl rfl _ underlying36 rfl (by kernel_rfl) ?_);(·first|rfl|(simp[aF,yielded];done)))|((with_reducible refine(Q _).mono ?_);rintro e H⟨rfl,j⟩;replace d:=d.grow j;have J:=d.b0.cell;have M:=d.b1.cell;have K:=d.b2.cell;have Z:=d.b0.frozen 0;have Y:=d.b0.frozen 3)|((with_reducible first|refine(U _).mono ?_|refine(V _).mono ?_|refine(N _ (by grind)).mono ?_|refine(O _ (by simpa using M 0)).mono ?_);rintro e H⟨rfl,rfl⟩)|((with_reducible first|refine jq 0 (.int .i64 t) d rfl 3 _ _ rfl rfl rfl (by kernel_rfl) ?_ rfl ?_|refine jq 3 (.bool false) d rfl 4 _ _ rfl rfl rfl (by kernel_rfl) ?_ rfl ?_);(·simp);intro H j J K;replace d:=j;clear j)|((with_reducible refine jv (#[.int .i64 t,.int .i64 a,.int .i64 b,.bool false]) d rfl _ _ rfl rfl rfl (by kernel_rfl) rfl ?_ ?_);(·(simp[aK];done));intro H j J K;replace d:=j))));all_goals(exact bodyPost_ret (gU results120 _ _ _ _ _ _ rfl rfl d.b2 underlying36 rfl (by kernel_rfl)) rfl ⟨rfl,d.below⟩));focus((have d2:decide (t<=now+a)=false:=by grind);rw[d2]at N ⊢)));rotate_left;(focus((have d1:decide (now-b<=t)=false:=by grind);rw[d1,Bool.false_and]at N ⊢));all_goals(simp only[Bool.false_and,bU,if_false];rw[if_neg (by decide)];go_enter func120,ntmps120;go_wp2_with(first|((with_reducible refine gK d ?_ _ rfl rfl _ underlying36 rfl (by kernel_rfl) ?_);(·rfl))|(go_at_call 46;(with_reducible refine(Q _).mono ?_);rintro e H⟨rfl,j⟩;replace d:=d.grow j;have J:=d.b0.cell;have M:=d.b1.cell;have K:=d.b2.cell;have Z:=d.b0.frozen 0;have Y:=d.b0.frozen 3)|((first|(go_at_call 80;(with_reducible refine(U _).mono ?_))|(go_at_call 80;(with_reducible refine(V _).mono ?_))|(go_at_call 172;(with_reducible refine(N _ (by grind)).mono ?_))|(go_at_call 172;(with_reducible refine(O _ (by simpa using M 0)).mono ?_)));rintro e H⟨rfl,rfl⟩)|((with_reducible refine jv gv d rfl _ _ rfl rfl rfl (by kernel_rfl) rfl ?_ ?_);(·(simp[aK];done));intro H j J K;replace d:=j));exact bodyPost_ret (gU results120 _ _ _ _ _ _ rfl rfl d.b2 underlying36 rfl (by kernel_rfl)) rfl ⟨rfl,d.below⟩)))
 all_goals(rw[if_neg (by decide)];go_enter func120,ntmps120;go_wp2_with(first|((with_reducible refine gK d ?_ _ rfl rfl _ underlying36 rfl (by kernel_rfl) ?_);(·rfl))|((with_reducible refine(Q _).mono ?_);rintro e H⟨rfl,j⟩;replace d:=d.grow j;have J:=d.b0.cell;have M:=d.b1.cell;have K:=d.b2.cell;have Z:=d.b0.frozen 0;have Y:=d.b0.frozen 3)|((with_reducible first|refine(U _).mono ?_|refine(V _).mono ?_|refine(N _ (by simpa using M 0)).mono ?_|refine(O _ (by simpa using M 0)).mono ?_);rintro e H⟨rfl,rfl⟩)|((with_reducible refine jv gv d rfl _ _ rfl rfl rfl (by kernel_rfl) rfl ?_ ?_);(·(simp[aK];done));intro H j J K;replace d:=j));exact bodyPost_ret (gU results120 _ _ _ _ _ _ rfl rfl d.b2 underlying36 rfl (by kernel_rfl)) rfl ⟨rfl,d.below⟩)
def arL (x i:Nat):UInt8:=UInt8.ofNat (x / 256 ^ i % 256)
def be:Nat->Nat->List UInt8
 |0,_=> []
 |n+1,x=>arL x n::be n x
def num (bs:List UInt8):Nat:=bs.foldl (fun n b=>n*256+b.toNat) 0
theorem iC(n x:Nat):(be n x).length=n:=by induction n with|zero=>rfl|succ n d=>simp[be,d]
theorem aap(bs:List UInt8): ∀a,bs.foldl (λn b=>n*256+b.toNat) a=a*256 ^ bs.length+num bs:=by induction bs with|nil=>intro a;simp[num]|cons b bs d=>intro a;simp only[num,List.foldl_cons,bK,Nat.zero_mul,aJ];rw[d,d b.toNat,Nat.pow_succ,Nat.add_mul,Nat.mul_assoc,Nat.mul_comm 256,Nat.add_assoc]
theorem Us(b:UInt8)(bs:List UInt8):num (b::bs)=b.toNat*256 ^ bs.length+num bs:=by show List.foldl _ (0*256+b.toNat) bs=_;rw[aap];simp
theorem zh(x i:Nat):(arL x i).toNat=x / 256 ^ i % 256:=by unfold arL;rw[UInt8.toNat_ofNat'];omega
theorem KU(n x:Nat):num (be n x)=x % 256 ^ n:=by induction n with|zero=>simp[be,num,Nat.mod_one]|succ n d=>rw[be,Us,iC,d,zh];rw[Nat.pow_succ,Nat.mod_mul,Nat.mul_comm,Nat.add_comm]
theorem adI(n x:Nat):be n (x % 256 ^ n)=be n x:=by
 have key: ∀m,m<=n->be m (x % 256 ^ n)=be m x:=by intro m;induction m with|zero=>intro _;rfl|succ m d=>intro hm;simp only[be];rw[d (by omega)];congr 1;unfold arL;congr 1;(have e:256 ^ n=256 ^ m*(256*256 ^ (n-m-1)):=by rw[<-Nat.mul_assoc,<-Nat.pow_succ,<-Nat.pow_add];congr 1;omega);rw[e,Nat.mod_mul_right_div_self,Nat.mod_mul_right_mod]
 exact key n ig
theorem aj6{n x y:Nat}(d:x<256 ^ n)(j:y<256 ^ n)(h:be n x=be n y):x=y:=by have:=congrArg num h;rw[KU,KU,dF d,dF j]at this;exact this
theorem Xu(m n x:Nat):be (m+n) x=be m (x / 256 ^ n)++be n x:=by induction m with|zero=>simp[be]|succ m d=>rw[show m+1+n=(m+n)+1 by omega];simp only[be,bQ,d];congr 1;unfold arL;rw[Nat.div_div_eq_div_mul,<-Nat.pow_add,Nat.add_comm n m]
structure P7 where
  kind:Int
  dir:Int
  fG:Int
  a:BitVec 32
  b:BitVec 32
  body:List UInt8
  je:BitVec 64
deriving DecidableEq
def P7.none_:P7:=⟨0,0,0,0,0,[],0⟩
def KW (p:P7):Prop:=0<=p.fG/\p.fG<16777216/\0<=p.dir/\p.dir<=1/\((p.kind=1/\p.dir=0/\p.b=0/\p.je=0/\p.body.length=0)\/(p.kind=2/\p.dir=1/\p.body.length=0)\/(p.kind=3/\p.dir=0/\p.body.length=0)\/(p.kind=5/\p.a=0/\1<=p.body.length/\p.body.length<=1023)\/(p.kind=6/\p.a=0/\p.body.length=1))
instance (p:P7):Decidable (KW p):=by unfold KW;infer_instance
def may (p:P7):Bool:=decide (KW p)
theorem FH{p:P7}:may p=true<->KW p:=by simp[may]
def nP (p:P7):List UInt8:=be 1 (2*p.kind+p.dir).toNat++be 3 p.fG.toNat++(if p.kind<=3 then be 4 p.a.toNat else [])++(if 2<=p.kind then be 4 p.b.toNat else [])++(if p.kind=5 then be 2 p.body.length else [])++p.body
def arx (p:P7):List UInt8:=if may p then nP p else []
def enc (p:P7):List UInt8:=if may p then nP p++(if 1<p.kind then be 8 p.je.toNat else []) else []
theorem YW(A B C:List UInt8)(i n:Nat)(hi:A.length=i)(hn:B.length=n):((A++(B++C)).drop i).take n=B:=by grind
theorem Ut(A B:List UInt8)(i:Nat)(hi:A.length=i):(A++B).drop i=B:=by grind
def adJ (p:P7):List UInt8:=if p.kind=1 then be 4 p.a.toNat else if p.kind<=3 then be 4 p.a.toNat++(be 4 p.b.toNat++be 8 p.je.toNat) else if p.kind=5 then be 4 p.b.toNat++(be 2 p.body.length++(p.body++be 8 p.je.toNat)) else be 4 p.b.toNat++(p.body++be 8 p.je.toNat)
theorem aj7(p:P7)(h:may p=true):enc p=be 1 (2*p.kind+p.dir).toNat++(be 3 p.fG.toNat++adJ p):=by
 have hm:=FH.1 h;obtain⟨k,j,t,a,b,body,je⟩:=p;simp only[enc,h,if_true,nP,adJ];unfold KW at hm;simp only at hm ⊢;rcases hm.2.2.2.2 with⟨rfl,_,_,_,d⟩ |⟨rfl,_,d⟩ |⟨rfl,_,d⟩ |⟨rfl,_,_,_⟩ |⟨rfl,_,_⟩;·grind
 ·grind
 ·grind
 ·simp
 ·simp
def KX (k:Nat) (d t first:Nat) (rest:List UInt8):Option P7:=if k=1 then some ⟨1,d,t,bT 32 first,0,[],0⟩ else if rest.length<8 then none else let je:=bT 64 (num (rest.drop (rest.length-8)));let r:=rest.take (rest.length-8);if k=2\/k=3 then some ⟨k,d,t,bT 32 first,bT 32 (num (r.take (min 4 r.length))),[],je⟩ else if k=5 then some ⟨5,d,t,0,bT 32 first,r.drop (min 2 r.length),je⟩ else if k=6 then some ⟨6,d,t,0,bT 32 first,r,je⟩ else some ⟨k,d,t,0,0,[],je⟩
def Bf (bs:List UInt8):Option P7:=if bs.length<8 then none else KX ((nth bs 0).toNat / 2) ((nth bs 0).toNat % 2) (num ((bs.drop 1).take 3)) (num ((bs.drop 4).take 4)) (bs.drop 8)
def vY (bs:List UInt8):Option P7:=match Bf bs with
 |some q=>if may q=true/\enc q=bs then some q else none
 |none=>none
theorem FI(a:BitVec 32):num (be 4 a.toNat)=a.toNat:=by rw[KU,dF];have:=a.isLt;simpa using this
theorem KY(a:BitVec 64):num (be 8 a.toNat)=a.toNat:=by rw[KU,dF];have:=a.isLt;simpa using this
theorem adK(x:Nat)(l:List UInt8)(d:x<256):(nth (be 1 x++l) 0).toNat=x:=by show(arL x 0).toNat=x;rw[zh];simp;omega
theorem aaq(p:P7)(h:may p=true):Bf (enc p)=some p:=by
 have hm:=FH.1 h;rw[aj7 p h];obtain⟨k,d,t,a,b,body,je⟩:=p;unfold KW at hm;simp only[adJ]at hm ⊢;obtain⟨Z,h2,h3,h4,V⟩:=hm;obtain⟨t,rfl⟩: ∃n:Nat,t=n:=⟨t.toNat,by omega⟩;obtain⟨d,rfl⟩: ∃n:Nat,d=n:=⟨d.toNat,by omega⟩;have Y:num (be 3 (t:Int).toNat)=t:=by rw[KU,dF] <;> simp <;> omega
 have M: ∀(j:Nat) (J K:List UInt8),j<=6->J.length=4->Bf (be 1 (2*(j:Int)+d).toNat++(be 3 (t:Int).toNat++(J++K)))=KX j d t (num J) K:=by
  intro j J K hk H;have U:(2*(j:Int)+d).toNat=2*j+d:=by omega
  rw[U];unfold Bf;have e1: ¬((be 1 (2*j+d)++(be 3 (t:Int).toNat++(J++K))).length<8):=by simp[iC,H];omega
  rw[if_neg e1,adK _ _ (by omega),YW _ _ _ 1 3 (iC _ _) (iC _ _),Y];have e2:be 1 (2*j+d)++(be 3 (t:Int).toNat++(J++K))=(be 1 (2*j+d)++be 3 (t:Int).toNat)++(J++K):=by simp
  rw[e2,YW _ _ _ 4 4 (by rfl) H];have e3:(be 1 (2*j+d)++be 3 (t:Int).toNat)++(J++K)=((be 1 (2*j+d)++be 3 (t:Int).toNat)++J)++K:=by simp
  rw[e3,Ut _ _ 8 (by simp[iC,H])];rw[show(2*j+d) / 2=j by omega,show(2*j+d) % 2=d by omega]
 have N: ∀(X:List UInt8),(X++be 8 je.toNat).drop ((X++be 8 je.toNat).length-8)=be 8 je.toNat:=λX=>Ut _ _ _ (by simp[iC]);have O: ∀(X:List UInt8),(X++be 8 je.toNat).take ((X++be 8 je.toNat).length-8)=X:=λX=>by
  have:(X++be 8 je.toNat).length-8=X.length:=by simp[iC]
  rw[this];simp
 rcases V with⟨rfl,Q,rfl,rfl,H⟩ |⟨rfl,Q,H⟩ |⟨rfl,Q,H⟩ |⟨rfl,rfl,aa,ac⟩ |⟨rfl,rfl,H⟩;·have:=M 1 (be 4 a.toNat) [] (by omega) (iC _ _);simp only[List.append_nil]at this;simp only[if_true];rw[show((1:Nat):Int)=1 from rfl]at this;rw[this,dw H];simp[KX,FI]
 focus(have:=M 2 (be 4 a.toNat) (be 4 b.toNat++be 8 je.toNat) (by omega) (iC _ _);rw[show((2:Nat):Int)=2 from rfl]at this;simp only[show ¬((2:Int)=1) by decide,if_false,show(2:Int)<=3 by decide,if_true])
 rotate_left;focus(have:=M 3 (be 4 a.toNat) (be 4 b.toNat++be 8 je.toNat) (by omega) (iC _ _);rw[show((3:Nat):Int)=3 from rfl]at this;simp only[show ¬((3:Int)=1) by decide,if_false,show(3:Int)<=3 by decide,if_true])
 rotate_left;·have:=M 5 (be 4 b.toNat) ((be 2 body.length++body)++be 8 je.toNat) (by omega) (iC _ _);rw[show((5:Nat):Int)=5 from rfl,List.append_assoc (be 2 body.length)]at this;simp only[show ¬((5:Int)=1) by decide,if_false,show ¬((5:Int)<=3) by decide,if_true];rw[this,<-List.append_assoc];unfold KX;rw[if_neg (by decide),if_neg (by grind),N,O];simp[FI,KY,iC]
 ·have:=M 6 (be 4 b.toNat) (body++be 8 je.toNat) (by omega) (iC _ _);rw[show((6:Nat):Int)=6 from rfl]at this;simp only[show ¬((6:Int)=1) by decide,if_false,show ¬((6:Int)<=3) by decide,show ¬((6:Int)=5) by decide];rw[this];unfold KX;rw[if_neg (by decide),if_neg (by grind),N,O];simp[FI,KY]
 all_goals(rw[this,dw H];unfold KX;rw[if_neg (by decide),if_neg (by simp[iC]),N,O];simp[FI,KY,iC,aY])
theorem GU(bs:List UInt8)(q:P7):vY bs=some q<->may q=true/\enc q=bs:=by
 constructor;·intro h;unfold vY at h;grind
 ·rintro⟨d,rfl⟩;unfold vY;rw[aaq q d];simp[d]
def nI (k:K4) (p:P7):Bool:=may p&&decide (p.kind≠1)&&(Mac k (arx p)==p.je)
theorem Qn(l:List UInt8)(i:Nat)(x:UInt8)(hi:i<l.length):nth (l.set i x) i=x:=by simp[nth,bH,hi]
theorem Xv(l:List UInt8)(i d:Nat)(x:UInt8)(h:i≠d):nth (l.set i x) d=nth l d:=by simp[nth,bH,List.getElem?_set_ne h]
theorem asl(k:K4)(s q:P7)(N:nI k s=true)(M:nI k q=true)(i:Nat)(x:UInt8)(hi:i<(enc s).length)(hx:x≠nth (enc s) i):enc q≠(enc s).set i x:=by
 intro h;simp only[nI,bM,decide_eq_true_eq,beq_iff_eq]at N M;obtain⟨⟨V,Y⟩,Z⟩:=N;obtain⟨⟨q1,q2⟩,q3⟩:=M;have J: ∀p:P7,may p=true->p.kind≠1->enc p=nP p++be 8 p.je.toNat/\arx p=nP p:=by
  intro p j d;have hm:=FH.1 j;have:1<p.kind:=by unfold KW at hm;omega
  exact⟨by simp[enc,j,this],by simp[arx,j]⟩
 obtain⟨es,ts⟩:=J s V Y;obtain⟨O,tq⟩:=J q q1 q2;rw[ts]at Z;rw[tq]at q3;have K:(nP q).length=(nP s).length:=by have:=congrArg List.length h;rw[List.length_set,es,O]at this;simp[iC]at this;exact this
 have same:nP q=nP s/\q.je=s.je:=by
  by_cases aa:i<(nP s).length;·(have d:nP q++be 8 q.je.toNat=(nP s).set i x++be 8 s.je.toNat:=by grind);obtain⟨H,Q⟩:=List.append_inj d (by grind);have hm:q.je=s.je:=BitVec.eq_of_toNat_eq (aj6 (by omega) (by omega) Q);refine⟨?_,hm⟩;(have U:Mac k (nP q)=Mac k (nP s):=by grind);refine(VI k (nP q) (nP s) K (i / 8) ?_).1 U;intro ac hj;rw[H];exact Xv _ _ _ _ (by omega)
  ·(have d:nP q++be 8 q.je.toNat=nP s++(be 8 s.je.toNat).set (i-(nP s).length) x:=by grind);obtain⟨H,_⟩:=List.append_inj d K;grind
 have e:enc q=enc s:=by grind
 rw[e]at h;have:=Qn (enc s) i x hi;grind
def arZ (bs:List UInt8):ByteArray:=⟨bs.toArray⟩
@[go_sem] theorem agF (a:List UInt8):(arZ a).toList=a:=by simp[arZ]
theorem xZ{A:Option Addr}{c:Nat}(h:aq2 w A c bs):(convert 45 9 (.slice A bs.length c)).run aj w=.ok (.string (arZ bs)) w:=by
 cases A with
 |none=>
  have j:bs= []:=by cases bs with|nil=>rfl|cons x xs=>obtain⟨b,off,e,_⟩:=h.at_ (k:=0) (by simp);cases e
  subst j;exact run_convert_bytes_nil w 45 5 dW underlying5 _ _ 9 underlying9
 |some a=>refine run_convert_bytes_back (P:=aj) w 45 9 5 a c bs dW underlying5 underlying9 (λH d=>?_);obtain⟨b,off,e,_,hc⟩:=h.at_ d;injection e with e;subst e;rw[Addr.add_lit,hc];unfold q8 nth;rw[bH,aI d];rfl
def Pd.laysJoin_ren:Go.Shelf.Ren:=⟨fun |14=>152 |15=>201 |n=>n,fun |26=>50 |22=>45 |3=>3 |4=>4 |0=>0 |9=>9 |20=>20 |5=>5 |n=>n,fun |n=>n⟩
theorem Pd.laysJoin:Go.Proofs.SlLaysJ.n14 aj Pd.laysJoin_ren where
  mixed:=by rfl
  f14:=Tryz.func152.trans (congrArg some (by rfl))
  f15:=Tryz.func201.trans (congrArg some (by rfl))
  t0:=underlying0
  a0:=isAgg0
  z0:=sizeOf0
  v0:=zeroValue0
  t3:=bG
  a3:=isAgg3
  z3:=sizeOf3
  v3:=zeroValue3
  t4:=dL
  a4:=isAgg4
  z4:=sizeOf4
  v4:=zeroValue4
  t9:=underlying9
  a9:=isAgg9
  z9:=sizeOf9
  v9:=zeroValue9
  t20:=underlying20
  a20:=isAgg20
  z20:=sizeOf20
  v20:=zeroValue20
  t22:=dW
  a22:=isAgg45
  z22:=sizeOf45
  v22:=zeroValue45
  t26:=underlying50
  a26:=isAgg50
  z26:=sizeOf50
  v26:=zeroValue50
  t5:=underlying5
  z5:=sizeOf5
  i5:=by kernel_rfl
def Pd.MO:Go.Shelf.Ren:=⟨fun |115=>106 |n=>n,fun |37=>45 |4=>4 |9=>9 |5=>5 |n=>n,fun |n=>n⟩
theorem Pd.aar:Go.Proofs.Lays.nb115 aj Pd.MO where
  mixed:=by rfl
  f115:=Tryz.func106.trans (congrArg some (by rfl))
  t4:=dL
  a4:=isAgg4
  z4:=sizeOf4
  v4:=zeroValue4
  t9:=underlying9
  a9:=isAgg9
  z9:=sizeOf9
  v9:=zeroValue9
  t37:=dW
  a37:=isAgg45
  z37:=sizeOf45
  v37:=zeroValue45
  t5:=underlying5
  a5:=isAgg5
  z5:=sizeOf5
  v5:=zeroValue5
theorem adL{a:Addr}(h:w.cell? a=some v):a.block<w.heap.size:=by
 rcases eu a.block w with d |d;·exact d
 ·simp[World.cell?,dI d]at h
theorem BX(a:BitVec 32)(i:Nat):UInt8.ofBitVec ((a >>> (8*i)).setWidth 8)=arL a.toNat i:=by apply UInt8.toNat_inj.1;rw[zh];show((a >>> (8*i)).setWidth 8).toNat=_;rw[BitVec.toNat_setWidth,BitVec.toNat_ushiftRight,Nat.shiftRight_eq_div_pow,Nat.pow_mul]
theorem be4(a:BitVec 32):be 4 a.toNat= [UInt8.ofBitVec ((a >>> 24).setWidth 8),UInt8.ofBitVec ((a >>> 16).setWidth 8),UInt8.ofBitVec ((a >>> 8).setWidth 8),UInt8.ofBitVec (a.setWidth 8)]:=by have d:=BX a 0;have j:=BX a 1;have H:=BX a 2;have J:=BX a 3;simp only[Nat.mul_zero,Nat.reduceMul,BitVec.ushiftRight_zero]at d j H J;simp[be,d,j,H,J]
theorem jG.holds(h:jG bs v w):Lib.HoldsBytes w v bs:=by
 obtain⟨A,c,rfl,hB⟩:=h;refine⟨A,c,rfl,?_,?_⟩;·rintro rfl;cases bs with|nil=>rfl|cons x xs=>obtain⟨b,off,e,_⟩:=hB.at_ (k:=0) (by simp);cases e
 ·rintro a rfl i x d;have hi:i<bs.length:=by grind
  obtain⟨b,off,e,_,hc⟩:=hB.at_ hi;injection e with e;subst e;rw[Addr.add_lit,hc];have:nth bs i=x:=by unfold nth;rw[bH,d];rfl
  rw[this];rfl
theorem FK{B:Nat}{l:List UInt8}(h:Lib.FreshBytes B w v l):fV B l v w:=by
 obtain⟨g,cap,M,rfl,Q,V,hm,hz,Y,N,hc,O⟩:=h;have K:0<l.length->g<w.heap.size:=λj=>adL (hc 0 (by omega));refine⟨_,cap,rfl,⟨?_,V,hm⟩,λj=>⟨g,rfl,Q,K j,λi hi=>O i (by omega)⟩⟩;intro j;rw[aq8]at j;refine⟨g,0,rfl,K j,λd u J=>?_⟩;have U:d<l.length:=by
  rcases eu d l.length with h |h;·exact h
  ·rw[dQ (by rw[aq8];exact h)]at J;cases J
 rw[aJ,hc d (by omega),<-J];unfold aq6;rw[bW];have H:d<M.length:=by omega
 have e1:l[d]? =some (UInt8.ofNat (M[d]).toNat):=by rw[<-N];simp[Lib.bytesOf,U,H]
 rw[e1];have Z:=Y _ (List.getElem_mem H);rw[bH,aI H];simp only[eG,eF];unfold q8;congr 2;simp only[UInt8.toNat_ofNat'];omega
theorem Xw(d:List (List UInt8)):Lib.join d []=d.flatten:=by cases d with|nil=>rfl|cons x r=>rw[Lib.join_cons,Lib.joinTail];simp
theorem Qo(b n c:Nat)(vs:List Value)(d:List (List UInt8))(w:World)(hn:vs.length=n)(J:d.length=n)(h1:1<=n)(hc:n<=c)(O: ∀i v,vs[i]? =some v->w.cell? ⟨b,i,none⟩=some v)(Q: ∀(i:Nat) v l,vs[i]? =some v->d[i]? =some l->jG l v w)(ac:Lib.lens d<=65536)(ae:n<=65536):Calls aj 105 #[.slice b n c] w λe w'=> ∃v,e=.returned v/\fV w d.flatten v w'/\w w':=by
 have Y:Calls aj 152 #[.slice b n c,nS] w λe w'=> ∃v,e=.returned v/\fV w d.flatten v w'/\w w':=by
  by_cases V:2<=n;·have Z:Lib.PartsAt w ⟨b,0,none⟩ vs d:=⟨by omega,λi v j=>by rw[Addr.add_lit,aJ];exact O i v j,λi v l j J=>(Q i v l j J).holds⟩;refine(Any.bytes_Join_many Pd.laysJoin b 0 n c vs d nS [] w J V Z hc ⟨none,0,rfl,λ_=>rfl,λa h=>by cases h⟩ (by omega) (by grind)).mono ?_;rintro e w'⟨v,rfl,K,H⟩;refine⟨v,rfl,?_,H⟩;have:=FK K;rwa [Xw]at this
  ·(obtain rfl:n=1:=by omega);match vs,d,hn,J with| [v0],[l0],_,_=>have j:=Q 0 v0 l0 rfl rfl;have N:=O 0 v0 rfl;have hh:=j.holds;obtain⟨A,c0,rfl,hB⟩:=j;simp only[List.flatten_cons,List.flatten_nil,List.append_nil];by_cases U:l0.length=0;(·have ad:=dw U;subst ad;refine(Any.bytes_Join_one_empty Pd.laysJoin b 0 c A c0 nS w N).mono ?_;rintro e w'⟨rfl,rfl⟩;exact⟨_,rfl,⟨none,0,rfl,aq2.nil _,λh=>absurd h (by simp)⟩,aH _ _⟩);·obtain⟨p,cap,M,_,aa⟩:=hh;simp only[dV,true_and]at M;obtain⟨rfl,rfl⟩:=M;obtain⟨b0,off,rfl,_⟩:=hB.at_ (k:=0) (by omega);refine(Any.bytes_Join_one Pd.laysJoin b 0 c _ c0 l0 nS w N (λi x hx=>aa _ rfl i x hx) (by omega) (by simp[Lib.lens]at ac;omega)).mono ?_;rintro e w'⟨v,rfl,K,H⟩;exact⟨v,rfl,FK K,H⟩
 go_enter func105,ntmps105;go_wp2_with(go_at_call 152;refine Y.mono ?_;rintro e w'⟨v,rfl,j,H⟩);go_ret;simp_all
theorem Qp(g n:Nat)(vs:Array Value)(d:List (List UInt8))(w:World)(H:fK w g 45 vs)(hn:vs.size=n)(J:d.length=n)(j:1<=n)(N: ∀(i:Nat) v l,vs.toList[i]? =some v->d[i]? =some l->jG l v w)(K:Lib.lens d<=65536)(M:n<=65536):Calls aj 105 #[.slice g n n] w λe w'=> ∃v,e=.returned v/\fV w d.flatten v w'/\w w':=Qo g n n vs.toList d w (by omega) J j ig (λi v O=>by rw[H.cell];simpa using O) N K M
set_option maxRecDepth 16000 in
theorem Ot(A1:Option Addr)(n1 c1:Nat)(xs:List UInt8)(A2:Option Addr)(n2 c2:Nat)(d:List UInt8)(w:World)(K:n1=xs.length)(M:n2=d.length)(O:aq2 w A1 c1 xs)(Q:aq2 w A2 c2 d):Calls aj 106 #[.slice A1 n1 c1,.slice A2 n2 c2] w λe w'=>e=.returned (.bool (decide (xs=d)))/\w'=w:=by
 subst K;subst M;have num: ∀l:List UInt8,strOfNums (l.map λb=>(b.toNat:Int))=arZ l:=by
  intro l;unfold arZ;have:=strOfNums_data (l.map λb=>(b.toNat:Int));have e:(strOfNums (l.map λb=>(b.toNat:Int))).data.toList=l:=by rw[this,List.map_map];(conv=>rhs;rw[<-List.map_id l]);apply List.map_congr_left;intro b _;apply UInt8.toNat_inj.1;simp
  cases N:strOfNums (l.map λb=>(b.toNat:Int)) with|mk U=>rw[N]at e;simp only at e;rw[<-e]
 have H:=xZ O;have J:=xZ Q;rw[<-num]at H J;have h:=Any.bytes_Equal {Pd.aar with} _ _ _ _ w H J;have j: ∀l:List UInt8,Lib.bytesOf (l.map λb=>(b.toNat:Int))=l:=by
  intro l;unfold Lib.bytesOf;rw[List.map_map];conv=>rhs;rw[<-List.map_id l]
  apply List.map_congr_left;intro b _;apply UInt8.toNat_inj.1;simp
 rw[j,j]at h;refine h.mono ?_;grind
theorem adM(bs:List UInt8)(b:UInt8):num (bs++ [b])=num bs*256+b.toNat:=by unfold num;rw[List.foldl_append];rfl
theorem adN(bs:List UInt8)(d:Nat)(h:d<bs.length):num (bs.take (d+1))=num (bs.take d)*256+(nth bs d).toNat:=by
 rw[List.take_add_one,aI h];have:nth bs d=bs[d]:=by simp[nth,bH,h]
 rw[this];exact adM _ _
theorem adO(n:Nat)(b:UInt8):(bT 64 n <<< 8 ||| bT 64 b.toNat)=bT 64 (n*256+b.toNat):=by rw[<-Eu _ _ b.toNat_lt];apply BitVec.eq_of_toNat_eq;rw[BitVec.toNat_add,BitVec.toNat_shiftLeft,BitVec.toNat_ofNat,BitVec.toNat_ofNat,BitVec.toNat_ofNat,Nat.shiftLeft_eq];have:=b.toNat_lt;omega
theorem FM(A:Option Addr)(n c:Nat)(bs:List UInt8)(w:World)(hn:n=bs.length)(hB:aq2 w A c bs)(N:bs.length<=65536):Calls aj 104 #[.slice A n c] w λe w'=>e=.returned (q64 (bT 64 (num bs)))/\w'=w:=by
 subst hn;go_enter func104,ntmps104;go_wp2_with fail;go_loop [3,8] (λx i=> ∃d:Nat,d<=bs.length/\i=.int .i64 d/\x=q64 (bT 64 (num (bs.take d)))) (λ_ i=>bs.length-(intOf i).toNat);case atStart=>exact⟨0,aV _,rfl,rfl⟩
 case round=>
  obtain⟨d,K,rfl,rfl⟩:=hrel;by_cases j:d<bs.length;·obtain⟨b,off,rfl,O,J⟩:=hB.at_ j;have H:=ah ((congrArg (bT 64) (adN bs d j)).trans (adO _ _).symm);(have M:(d:Int)<bs.length:=by omega);go_wp2_with fail;refine⟨⟨d+1,by omega,by go_num,by rw[H.out]⟩,by simp[intOf];omega⟩
  ·(obtain rfl:d=bs.length:=by omega);go_wp2_with fail;go_ret;simp
theorem ar6(l:List UInt8):((l.length:Int)==0)=decide (l= []):=by rw[Bool.eq_iff_iff];simp
theorem YX(l:List UInt8):((l.length:Int)==1)=decide (l.length=1):=by grind
theorem Uu(p:P7)(A:Option Addr)(n c:Nat)(w:World)(hn:n=p.body.length)(H:p.body.length<=65536):Calls aj 149 #[.agg #[.int .i64 p.kind,.int .i64 p.dir,.int .i64 p.fG,q32 p.a,q32 p.b,.slice A n c,q64 p.je]] w λe w'=>e=.returned (.bool (may p))/\w w':=by
 subst hn;obtain⟨kind,dir,fG,a,b,body,je⟩:=p;simp only at H ⊢;have d: ∀o,w (w.alloc o):=λo=>gY.alloc ig o;by_cases g:0<=fG/\fG<16777216/\0<=dir/\dir<=1;·obtain⟨J,K,M,N⟩:=g;go_enter func149,ntmps149;go_wp2;all_goals go_ret;refine⟨congrArg (λb=>Ending.returned (Value.bool b)) ?_,d _⟩;simp_all[may,KW];try first|exact ar6 _|exact YX _|(rw[Bool.eq_iff_iff];grind)|omega
 ·have j:may ⟨kind,dir,fG,a,b,body,je⟩=false:=by unfold may;rw[decide_eq_false_iff_not];intro h;exact g ⟨h.1,h.2.1,h.2.2.1,h.2.2.2.1⟩
  rw[j];go_enter func149,ntmps149;go_wp2;all_goals go_ret;refine⟨congrArg (λb=>Ending.returned (Value.bool b)) ?_,d _⟩;simp_all[may,KW];try first|exact ar6 _|exact YX _|(rw[Bool.eq_iff_iff];simp;omega)|omega
section
set_option maxRecDepth 16000
section
variable {P:Program} (w:World) (src dst:TypeId)
theorem Ie(n:Int)(j:P.underlying src=some (.int .i64))(d:P.underlying dst=some (.int .u32)):(convert src dst (.int .i64 n)).run P w=.ok (q32 (aQ 32 n)) w:=by
 have e:IntKind.u32.wrap n=((aQ 32 n).toNat:Int):=by rw[IntKind.wrap_u32,BitVec.toNat_ofInt];omega
 simp[convert,run_underlying j,run_underlying d,Conv.intToInt,e,q32]
theorem Ig(n:Int)(j:P.underlying src=some (.int .i64))(d:P.underlying dst=some (.int .u64)):(convert src dst (.int .i64 n)).run P w=.ok (q64 (aQ 64 n)) w:=by
 have e:IntKind.u64.wrap n=((aQ 64 n).toNat:Int):=by rw[IntKind.wrap_u64,BitVec.toNat_ofInt];omega
 simp[convert,run_underlying j,run_underlying d,Conv.intToInt,e,q64]
end
attribute [local go_sem high] Ie Ig
def Bg (x:Nat):Value->World->Prop:=fun v w=> ∃g,v=.slice (some ⟨g,0,none⟩) 4 4/\aq2 w (some ⟨g,0,none⟩) 4 (be 4 x)
theorem Bg.grow{x:Nat}{v:Value}{w w':World}(h:Bg x v w)(d:w w'):Bg x v w':=by obtain⟨g,e,hB⟩:=h;exact⟨g,e,hB.below d⟩
theorem Bg.is{x:Nat}{v:Value}{w:World}(h:Bg x v w):jG (be 4 x) v w:=by obtain⟨g,e,hB⟩:=h;exact⟨_,4,by rw[e,iC],hB⟩
theorem Qq(a:BitVec 32)(w:World):Calls aj 151 #[q32 a] w λe w'=> ∃v,e=.returned v/\Bg a.toNat v w'/\w w':=by
 go_enter func151,ntmps151;go_wp2;go_ret;refine⟨_,rfl,⟨w,rfl,?_,?_,by decide⟩,gY.alloc ig _⟩;·rw[be4];exact Row.block (fK.new w _ _)
 ·rw[iC];exact aW _
def arF (w:World):List Value->List (List UInt8)->Prop
 | [],[]=>True
 |v::vs,l::ls=>jG l v w/\arF w vs ls
 |_,_=>False
theorem arF.grow{w w':World}(j:w w'): ∀(vs:List Value) (d:List (List UInt8)),arF w vs d->arF w' vs d
 | [],[],_=>trivial
 |_::vs,_::d,h=>⟨h.1.grow j,arF.grow j vs d h.2⟩
 | [],_::_,h=>h.elim
 |_::_,[],h=>h.elim
theorem arF.get{w:World}: ∀(vs:List Value) (d:List (List UInt8)),arF w vs d->vs.length=d.length/\ ∀(i:Nat) v l,vs[i]? =some v->d[i]? =some l->jG l v w
 | [],[],_=>⟨rfl,λi v l h=>by simp at h⟩
 |v::vs,l::d,h=>by obtain⟨J,K⟩:=arF.get vs d h.2;refine⟨by simp[J],λi N M H j=>?_⟩;match i with|0=>simp only[eP,aO]at H j;subst H;subst j;exact h.1|i+1=>simp only[fB]at H j;exact K i N M H j
 | [],_::_,h=>h.elim
 |_::_,[],h=>h.elim
def zi (ls:List (List UInt8)):Value->World->Prop:=fun v w=> ∃g vs,v=.slice (some ⟨g,0,none⟩) ls.length ls.length/\fK w g 45 vs/\arF w vs.toList ls
theorem zi.grow{H:List (List UInt8)}{v:Value}{w w':World}(h:zi H v w)(d:w w'):zi H v w':=by obtain⟨g,vs,e,j,J⟩:=h;exact⟨g,vs,e,j.below d j.lt,arF.grow d _ _ J⟩
theorem BZ(d:List (List UInt8))(g n:Nat)(vs:Array Value)(w:World)(hn:n=d.length)(M:fK w g 45 vs)(K:arF w vs.toList d)(j:1<=d.length)(O:d.length<=8)(N:Lib.lens d<=65536):Calls aj 105 #[.slice (some ⟨g,0,none⟩) n n] w λe w'=> ∃v,e=.returned v/\fV w d.flatten v w'/\w w':=by subst hn;obtain⟨H,J⟩:=arF.get _ _ K;exact Qp g d.length vs d w M (by simpa using H) rfl j J N (by omega)
def Qr (k d t:Int):BitVec 32:=aQ 32 (k*2+d) <<< 24 ||| aQ 32 t
theorem adP(k d t:Int)(Z:0<=k)(aa:k<=6)(V:0<=d)(Y:d<=1)(ht:0<=t)(ac:t<16777216):be 4 (Qr k d t).toNat=be 1 (2*k+d).toNat++be 3 t.toNat:=by
 obtain⟨t,rfl⟩: ∃n:Nat,t=n:=⟨t.toNat,by omega⟩;obtain⟨x,Q⟩: ∃n:Nat,k*2+d=n:=⟨(k*2+d).toNat,by omega⟩;have e2:2*k+d=x:=by omega
 rw[e2];have U:x<=13:=by omega
 have e:(Qr k d t).toNat=x*16777216+t:=by
  unfold Qr;rw[Q];have j:aQ 32 (x:Int)=bT 32 x:=by simp
  have H:aQ 32 (t:Int)=bT 32 t:=by simp
  rw[j,H,BitVec.toNat_or,BitVec.toNat_shiftLeft,BitVec.toNat_ofNat,BitVec.toNat_ofNat,Nat.shiftLeft_eq];have J:x % 2 ^ 32=x:=dF (by simp;omega);have K:t % 2 ^ 32=t:=dF (by simp;omega);rw[J,K];have M:x*2 ^ 24 % 2 ^ 32=2 ^ 24*x:=by rw[Nat.mul_comm];exact dF (by simp;omega)
  rw[M,<-Nat.two_pow_add_eq_or_of_lt (by simp;omega)];simp;omega
 rw[e,show(4:Nat)=1+3 from rfl,Xu];have N:(x*16777216+t) / 256 ^ 3=x:=by simp;omega
 rw[N,<-adI 3 (x*16777216+t)];have O:(x*16777216+t) % 256 ^ 3=t:=by simp;omega
 rw[O];simp
theorem Qs(kind dir fG:Int)(a b:BitVec 32)(body:List UInt8)(je:BitVec 64)(A:Option Addr)(c:Nat)(w:World)(d:body.length<=65536):Calls aj 149 #[.agg #[.int .i64 kind,.int .i64 dir,.int .i64 fG,q32 a,q32 b,.slice A body.length c,q64 je]] w λe w'=>e=.returned (.bool (may ⟨kind,dir,fG,a,b,body,je⟩))/\w w':=Uu ⟨kind,dir,fG,a,b,body,je⟩ A body.length c w rfl d
theorem aas(kind dir fG:Int)(w:World)(J:0<=kind)(K:kind<=6)(j:0<=dir)(H:dir<=1)(M:0<=fG)(N:fG<16777216):Calls aj 151 #[q32 (aQ 32 (kind*2+dir) <<< 24 ||| aQ 32 fG)] w λe w'=> ∃g,e=.returned (.slice (some ⟨g,0,none⟩) 4 4)/\aq2 w' (some ⟨g,0,none⟩) 4 (be 1 (2*kind+dir).toNat++be 3 fG.toNat)/\w w':=by rw[<-adP kind dir fG J K j H M N];refine(Qq (Qr kind dir fG) w).mono ?_;rintro e w'⟨v,rfl,⟨g,rfl,hB⟩,d⟩;exact⟨g,rfl,hB,d⟩
theorem rM{w:World}{g:Nat}{l:List UInt8}(h:aq2 w (some ⟨g,0,none⟩) 4 l)(d:l.length=4):jG l (.slice (some ⟨g,0,none⟩) 4 4) w:=⟨_,4,by rw[d],h⟩
def Qu (n:Nat):Value->World->Prop:=fun v w=> ∃g,v=.slice (some ⟨g,2,none⟩) 2 2/\aq2 w (some ⟨g,2,none⟩) 2 (be 2 n)
theorem Qu.grow{n:Nat}{v:Value}{w w':World}(h:Qu n v w)(d:w w'):Qu n v w':=by obtain⟨g,e,hB⟩:=h;exact⟨g,e,hB.below d⟩
theorem aj8(n:Nat)(h:n<65536):be 4 (bT 32 n).toNat=be 2 0++be 2 n:=by
 have e:(bT 32 n).toNat=n:=by simp;omega
 rw[e,show(4:Nat)=2+2 from rfl,Xu];have d:n / 256 ^ 2=0:=by simp;omega
 rw[d]
theorem aat{w:World}{g n:Nat}(h:aq2 w (some ⟨g,0,none⟩) 4 (be 4 (bT 32 n).toNat))(hn:n<65536):aq2 w (some ⟨g,2,none⟩) 2 (be 2 n):=by refine⟨λJ=>?_,by rw[iC];exact aW _,by decide⟩;obtain⟨b,off,e,d,hc⟩:=h.row (by rw[aq8,iC];decide);simp only[aO,cZ,and_true]at e;obtain⟨rfl,rfl⟩:=e;refine⟨g,2,rfl,d,λH u j=>?_⟩;have:=hc (2+H) u (by rw[aj8 n hn,vJ,List.getElem?_append_right (by rw[aq8,iC];omega),aq8,iC,Nat.add_sub_cancel_left];exact j);rwa [aJ]at this
theorem Xx{w:World}{j l1 l2:List UInt8}{H J K:Value}(M:jG j H w)(N:jG l1 J w)(O:jG l2 K w):zi [j,l1,l2] (.slice (some ⟨w,0,none⟩) 3 3) (w.alloc (.cells #[H,J,K] 45)):=have d:=(aH _ w).alloc ig _;⟨_,_,rfl,fK.new _ _ _,M.grow d,N.grow d,O.grow d,trivial⟩
theorem aj9{w:World}{j l1 l2 l3:List UInt8}{H J K M:Value}(N:jG j H w)(O:jG l1 J w)(Q:jG l2 K w)(U:jG l3 M w):zi [j,l1,l2,l3] (.slice (some ⟨w,0,none⟩) 4 4) (w.alloc (.cells #[H,J,K,M] 45)):=have d:=(aH _ w).alloc ig _;⟨_,_,rfl,fK.new _ _ _,N.grow d,O.grow d,Q.grow d,U.grow d,trivial⟩
theorem Xy(p:P7)(A:Option Addr)(n c:Nat)(w:World)(hn:n=p.body.length)(hB:aq2 w A c p.body)(aw:p.body.length<=2000):Calls aj 150 #[.agg #[.int .i64 p.kind,.int .i64 p.dir,.int .i64 p.fG,q32 p.a,q32 p.b,.slice A n c,q64 p.je]] w λe w'=> ∃v,e=.returned v/\fV w (arx p) v w'/\w w':=by
 subst hn;obtain⟨kind,dir,fG,a,b,body,je⟩:=p;simp only at aw hB ⊢;have af:=λW=>Qs kind dir fG a b body je A c W (by omega);cases hm:may ⟨kind,dir,fG,a,b,body,je⟩ with
 |false=>
  have ht:arx ⟨kind,dir,fG,a,b,body,je⟩= []:=by simp[arx,hm]
  rw[hm]at af;rw[ht];clear hm ht;go_enter func150,ntmps150;go_wp2_with(go_at_call 149;(with_reducible refine(af _).mono ?_);rintro e w1⟨rfl,H⟩);go_ret;exact⟨_,rfl,⟨none,0,rfl,aq2.nil _,λh=>absurd h (by simp)⟩,iP H⟩
 |true=>
  have ht:arx ⟨kind,dir,fG,a,b,body,je⟩=nP ⟨kind,dir,fG,a,b,body,je⟩:=by simp[arx,hm]
  rw[ht];clear ht;have hM:=FH.1 hm;rw[hm]at af;clear hm;unfold KW at hM;simp only at hM;obtain⟨g1,g2,g3,g4,hM⟩:=hM;have ac:=λW (h:0<=kind/\kind<=6)=>aas kind dir fG W h.1 h.2 g3 g4 g1 g2;have Q:(be 1 (2*kind+dir).toNat++be 3 fG.toNat).length=4:=by simp[iC]
  rcases hM with⟨rfl,-,-,-,K⟩ |⟨rfl,-,K⟩ |⟨rfl,-,K⟩ |⟨rfl,-,-,K⟩ |⟨rfl,-,K⟩;all_goals have ac:=λW=>ac W (by omega);replace K:=ah K;simp only[Int.reduceMul]at ac Q;generalize ae:be 1 _++be 3 fG.toNat=ar at ac Q;replace ae:=ah ae;go_enter func150,ntmps150;go_wp2_with(first|(go_at_call 149;(with_reducible refine(af _).mono ?_);rintro e w1⟨rfl,H⟩;obtain⟨fU,_⟩:=qG H;have fJ:w.heap.size<w1.heap.size:=by have:=H.size;simp at this;omega)|(go_at_call 151;(with_reducible refine(ac _).mono ?_);rintro e w2⟨gh,rfl,hv,ag⟩;obtain⟨fU,_⟩:=qG ag;have fJ:w.heap.size<w2.heap.size:=by have:=ag.size;omega));have V:w w2:=gZ (iP H) ag;have ap:aq2 w2 A c body:=hB.below V
  ·refine(Qq a _).mono ?_;rintro e w3⟨_,rfl,⟨ga,rfl,av⟩,O⟩;have aa:=hv.below O;go_wp2_with(go_at_call 105;refine(BZ [ar,be 4 a.toNat] w3 2 #[.slice (some ⟨gh,0,none⟩) 4 4,.slice (some ⟨ga,0,none⟩) 4 4] _ rfl (fK.new _ _ _) ⟨rM (aa.alloc _) Q,rM (av.alloc _) (iC _ _),trivial⟩ (by simp) (by simp) (by simp[Lib.lens,iC,Q])).mono ?_;rintro e w4⟨v,rfl,ax,aq⟩);go_ret;refine⟨_,rfl,?_,gZ V (gZ O (iP aq))⟩;have:=ax.mono (base':=w.heap.size) (by have:=V.size;have:=O.size;simp;omega);rw[<-ae.out]at this;simpa[nP,dw K.out] using this
  all_goals(
   apply iM;(case lX=>intro u;simp only[bV,aq9,aP,ay,aA,aB,aT,aJ];rfl);(case hm=>kernel_rfl);(case hB=>kernel_rfl);case hap=>kernel_rfl
   repeat(first
      |(apply Lex.is;·(intro u w' J d;simp[fH,aC,Is]at d;refine fF (by first |rfl |simp[aF,yielded,d]) ?_;intro U j;obtain⟨az,_⟩:=qG J;go_wp2_with fail;(try simp only[d]at j);refine j _ _ ?_ rfl;exact aH _ _))
      |(apply Lex.word (Bg _) (λ_ _ _ h H=>h.grow H);·(intro u w' J d;simp[fH,aC,Is]at d;refine fF (by first |rfl |simp[aF,yielded,d]) ?_;intro U j;go_wp2_with(go_at_call 151;(with_reducible refine(Qq _ _).mono ?_);rintro e w3⟨v3,rfl,aa,O⟩);(try simp only[d]at j);exact j _ _ O aa))
      |(apply Lex.word (Qu body.length) (λ_ _ _ h H=>h.grow H);·(intro u w' J d;simp[fH,aC,Is]at d;refine fF (by first |rfl |simp[aF,yielded,d]) ?_;intro U j;obtain⟨ad,N,au⟩:=d;go_wp2_with fail;(try simp only[N]at j);exact j _ _ gY ⟨ad,rfl,aat au (by have:=K.out;omega)⟩))
      |(apply Lex.word (zi _) (λ_ _ _ h H=> h.grow H); · (intro u w' J d; simp [fH, aC, Is]at d; refine fF (by first | rfl | simp [aF, yielded, d]) ?_; intro U j; have ak := rM (hv.below J) Q; have am : jG body (.slice A body.length c) w' := ⟨_, _, rfl, ap.below J⟩; have ha := λo=> (aH _ w').alloc ig o; first
       |(obtain⟨M,⟨ad,N,Z⟩,Y⟩:=d;go_wp2_with fail;(try simp only[M,N,Y]at j);exact j _ _ (ha _) (Xx ak (rM Z (iC _ _)) am))
       |(obtain⟨M,⟨ad,N,Z⟩,⟨an,Y,h2⟩⟩:=d;go_wp2_with fail;(try simp only[M,N,Y]at j);exact j _ _ (ha _) (Xx ak (rM Z (iC _ _)) (rM h2 (iC _ _))))
       |(obtain⟨M,⟨ad,N,Z⟩,⟨an,Y,h2⟩,d3⟩:=d;go_wp2_with fail;(try simp only[M,N,Y,d3]at j);exact j _ _ (ha _) (aj9 ak (rM Z (iC _ _)) ⟨_,2,rfl,h2⟩ am))))
      |(apply Lex.word (fV w2 _) (λ_ _ _ h H=>h.grow H);·(intro u w' J d;simp[fH,aC]at d;refine fF (by first |rfl |simp[aF,yielded]) ?_;intro U j;obtain⟨⟨gp,vs,M,ZW,hP⟩,_⟩:=d;go_wp2_with(go_at_call 105;refine(BZ _ gp _ vs _ rfl ZW hP (by simp) (by simp) (by have:=K.out;simp[Lib.lens,iC,Q] <;> omega)).mono ?_;rintro e w3⟨v3,rfl,aa,O⟩);(try simp only[M]at j);exact j _ _ O (aa.mono J.size)))
      |(apply Lex.word (fV w2 _) (λ_ _ _ h H=>h.grow H);·(intro u w' J d;simp[fH,aC]at d;refine fF (by first |rfl |simp[aF,yielded]) ?_;intro U j;go_wp2_with fail;first|exact j _ _ gY d|exact j _ _ gY d.1)))
   apply Lex.nil;intro u w' J d;simp only[gQ]at d;have al:=V.size;(have ai:=by first|exact(d 14 _ rfl).mono al|exact(d 9 _ rfl).mono al|exact(d 8 _ rfl).mono al);clear d;go_wp2_with fail;go_ret;refine⟨_,rfl,?_,gZ V J⟩;rw[<-ae.out]at ai;first|simpa[nP] using ai|simpa[nP,dw K.out] using ai)
end
end Go.Proofs.YthnmgjngniciaaaGreatDoor
