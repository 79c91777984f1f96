/- Parts. -/
import Derived.Laws.BytesArg
import Derived.Laws.IdiomStrings
import Derived.Laws.Strings
import Derived.Shelf.Bytes.SlJoin
import Derived.Shelf.Bytes.SlEqualAll
import Derived.Test.YthnmgjngniciaaaGreatDoorV04
set_option linter.all false
set_option maxHeartbeats 16000000
set_option maxRecDepth 8000
open Array renaming getElem?_eq_none->dI
open BitVec renaming ofInt->aQ,ofNat->bT
open Bool renaming and_eq_true->bM,false_eq_true->bU
open List renaming cons_append->bQ,eq_nil_of_length_eq_zero->dw,getD_eq_getElem?_getD->bH,getElem?_cons_succ->fB,getElem?_cons_zero->eP,getElem?_eq_getElem->aI,getElem?_eq_none->dQ,getElem?_map->bW,length_append->bC,length_cons->bK,length_nil->dU,length_take->dX,map->bV,mem_cons->bJ,not_mem_nil->dH,setIfInBounds_toArray->ay,set_cons_succ->aB,set_cons_zero->aA,take_of_length_le->aY
open Nat renaming add_zero->bI,le_of_eq->bZ,le_refl->aW,le_trans->aG,lt_of_lt_of_le->aU,lt_or_ge->eu,mod_eq_of_lt->dF,reduceAdd->aT,zero_add->aJ,zero_le->aV
open Option renaming getD_some->eG,map_some->eF
open Option.some renaming injEq->aO
namespace Go.Proofs.YthnmgjngniciaaaGreatDoor
open Go renaming Addr->δ,Calls->Γ,Ending->ε,Program->χ,TypeId->τ,Value->Θ,World->ω,binOp->γ,bodyPost_ret->β,run_underlying->ν,setRow_other->ζ,undef->υ,wp_load_row->ι,wp_store_row->η,yielded->ψ
open Go.RowKit Go.Shelf Tryz
open Act renaming put->aP
open Addr.mk renaming injEq->cZ
open Below renaming heap_setCell->aN,refl->aH
open Go.Lib renaming hid->ah
open Region renaming binds->aC,wanted->aF
open Tryz renaming prog->aj,underlying136->bF,underlying3->bG,underlying34->bD,underlying4->dL,underlying45->dW
open Value renaming oneCell'->aK
open Value.slice renaming injEq->dV
open World renaming setCell->dD
variable{cells cs:Array Θ}{x0 x1:Bk}{k:K4}{bs:List UInt8}{base c g:Nat}{A:Option δ}{x:UInt8}{v:Θ}{W W' w w':ω}
theorem Ur(lo hi t:Int)(g:Nat)(w:ω)(hc:w.cell? ⟨g,0,none⟩=some (.int .i64 t)):Γ aj 172 #[.int .i64 lo,.int .i64 hi,.pointer g] w λe w'=>e=.returned (.bool (decide (lo<=t)&&decide (t<=hi)))/\w'=w:=by
 by_cases h1:lo<=t
 .have f1:decide (lo<=t)=true:=by grind
  rw[f1,Bool.true_and];go_enter func172,ntmps172;go_wp2;go_ret;simp
 .have f1:decide (lo<=t)=false:=by grind
  rw[f1,Bool.false_and];go_enter func172,ntmps172;go_wp2;go_ret;simp
def adH (l a b:Int) (f:Bool) (t now:Int):Bool:=decide (now-b<=t)&&decide (t<=now+a)&&(f || decide (l+1<=t)&&decide (t<=4294967294))
def Dl (l a b:Int) (f:Bool) (t now:Int):Int:=if(um l a b&&lJ t&&lJ now)=true then(if adH l a b f t now=true then 0 else 110) else 1
def ase (l a b:Int) (f:Bool) (t now:Int):Array Θ:=if Dl l a b f t now=0 then #[.int .i64 t,.int .i64 a,.int .i64 b,.bool false] else gv
theorem Bd{n:Int}(h:lJ n=true):0<=n/\n<=4294967294:=by unfold lJ at h;grind
theorem agE(l a b:Int)(f:Bool)(t now:Int)(w:ω):Γ aj 120 #[.agg #[.int .i64 l,.int .i64 a,.int .i64 b,.bool f],.int .i64 t,.int .i64 now] w λe w'=>e=.returned (.tuple #[.agg (ase l a b f t now),.int .i64 (Dl l a b f t now)])/\w w':=by
 have j:Own w _ [_,_,_]:=Own.start3 w 36 3 36 #[.int .i64 l,.int .i64 a,.int .i64 b,.bool f] #[.int .i64 t] gv;have ad:=j.b0.cell;have ae:=j.b1.cell;have af:=j.b2.cell;have ag:=j.b0.frozen 0;have ac:=j.b0.frozen 3;have h1:=λW=>ab7 l a b f W;have U:=λW=>uV t W;have V:=λW=>uV now W;unfold ase Dl;have O:=λW hc=>Ur (now-b) (now+a) t (w.heap.size+1) W hc;have Q:=λW hc=>Ur (l+1) 4294967294 t (w.heap.size+1) W hc;rcases hm:um l a b with _ |_;focus(rw[hm]at h1;simp only[Bool.false_and,bU,if_false])
 rotate_left;focus(rw[hm]at h1;have aa:=hm;unfold um at aa;simp only[bM,Bool.or_eq_true,decide_eq_true_eq]at aa;obtain⟨⟨ra,rb⟩,rl⟩:=aa;have ra:=Bd ra;have rb:=Bd rb;(have ai: -1<=l/\l<=4294967294:=by rcases rl with h |h;omega;.have:=Bd h;omega);rcases ht:lJ t with _ |_;(focus(rw[ht]at U;simp only[Bool.and_false,Bool.false_and,bU,if_false]));rotate_left;focus(rw[ht]at U;have rt:=Bd ht;rcases hn:lJ now with _ |_;(focus(rw[hn]at V;simp only[Bool.and_false,bU,if_false]));rotate_left;.rw[hn]at V;have rn:=Bd hn;simp only[Bool.and_self,if_true];unfold adH;(have c4:decide (t<=4294967294)=true:=by grind);rw[c4,Bool.and_true]at Q |-;by_cases c1:now-b<=t;(focus((have d1:decide (now-b<=t)=true:=by grind);rw[d1,Bool.true_and]at O |-;by_cases c2:t<=now+a;(·(have d2:decide (t<=now+a)=true:=by grind);rw[d2]at O |-;rw[Bool.true_and];rcases f with _ |_;(focus(rw[Bool.false_or];by_cases c3:l+1<=t;(focus((have d3:decide (l+1<=t)=true:=by grind);rw[d3]at Q |-;simp only[if_true];go_enter func120,ntmps120;go_wp2_with(first|((with_reducible refine gK j ?_ _ rfl rfl _ underlying36 rfl (by kernel_rfl) ?_);(.first|rfl|(simp[aF,ψ];done)))|((with_reducible refine(h1 _).mono ?_);rintro e J⟨rfl,H⟩;replace j:=j.grow H;have K:=j.b0.cell;have N:=j.b1.cell;have M:=j.b2.cell;have Z:=j.b0.frozen 0;have Y:=j.b0.frozen 3)|((first|(with_reducible refine(U _).mono ?_)|(go_at_call 80;(with_reducible refine(V _).mono ?_))|(go_at_call 172;(with_reducible refine(O _ (by simpa using N 0)).mono ?_))|(go_at_call 172;(with_reducible refine(Q _ (by grind)).mono ?_)));rintro e J⟨rfl,rfl⟩)|((with_reducible first|refine jq 0 (.int .i64 t) j rfl 3 _ _ rfl rfl rfl (by kernel_rfl) ?_ rfl ?_|refine jq 3 (.bool false) j rfl 4 _ _ rfl rfl rfl (by kernel_rfl) ?_ rfl ?_);(.simp);intro J H K M;replace j:=H;clear H)|((with_reducible refine jv (#[.int .i64 t,.int .i64 a,.int .i64 b,.bool false]) j rfl _ _ rfl rfl rfl (by kernel_rfl) rfl ?_ ?_);(·(simp[aK];done));intro J H K M;replace j:=H))));rotate_left;focus((have d3:decide (l+1<=t)=false:=by grind);rw[d3]at Q |-;simp only[bU,if_false];rw[Ξ (by decide)];go_enter func120,ntmps120;go_wp2_with(first|((with_reducible refine gK j ?_ _ rfl rfl _ underlying36 rfl (by kernel_rfl) ?_);rfl)|(go_at_call 46;(with_reducible refine(h1 _).mono ?_);rintro e J⟨rfl,H⟩;replace j:=j.grow H;have K:=j.b0.cell;have N:=j.b1.cell;have M:=j.b2.cell;have Z:=j.b0.frozen 0;have Y:=j.b0.frozen 3)|((first|(go_at_call 80;(with_reducible refine(U _).mono ?_))|(go_at_call 80;(with_reducible refine(V _).mono ?_))|(go_at_call 172;(with_reducible refine(O _ (by simpa using N 0)).mono ?_))|(go_at_call 172;(with_reducible refine(Q _ (by grind)).mono ?_)));rintro e J⟨rfl,rfl⟩)|((with_reducible refine jv gv j rfl _ _ rfl rfl rfl (by kernel_rfl) rfl ?_ ?_);(·(simp[aK];done));intro J H K M;replace j:=H)))));rotate_left 2;(focus(simp only[Bool.true_or,if_true];go_enter func120,ntmps120;go_wp2_with(first|((with_reducible refine gK j ?_ _ rfl rfl _ underlying36 rfl (by kernel_rfl) ?_);(.first|rfl|(simp[aF,ψ];done)))|((with_reducible refine(h1 _).mono ?_);rintro e J⟨rfl,H⟩;replace j:=j.grow H;have K:=j.b0.cell;have N:=j.b1.cell;have M:=j.b2.cell;have Z:=j.b0.frozen 0;have Y:=j.b0.frozen 3)|((with_reducible first|refine(U _).mono ?_|refine(V _).mono ?_|refine(O _ (by grind)).mono ?_|refine(Q _ (by simpa using N 0)).mono ?_);rintro e J⟨rfl,rfl⟩)|((with_reducible first|refine jq 0 (.int .i64 t) j rfl 3 _ _ rfl rfl rfl (by kernel_rfl) ?_ rfl ?_|refine jq 3 (.bool false) j rfl 4 _ _ rfl rfl rfl (by kernel_rfl) ?_ rfl ?_);(.simp);intro J H K M;replace j:=H;clear H)|((with_reducible refine jv (#[.int .i64 t,.int .i64 a,.int .i64 b,.bool false]) j rfl _ _ rfl rfl rfl (by kernel_rfl) rfl ?_ ?_);(·(simp[aK];done));intro J H K M;replace j:=H))));all_goals(exact β (gU results120 _ _ _ _ _ _ rfl rfl j.b2 underlying36 rfl (by kernel_rfl)) rfl ⟨rfl,j.below⟩));focus((have d2:decide (t<=now+a)=false:=by grind);rw[d2]at O |-)));rotate_left;(focus((have d1:decide (now-b<=t)=false:=by grind);rw[d1,Bool.false_and]at O |-));all_goals(simp only[Bool.false_and,bU,if_false];rw[Ξ (by decide)];go_enter func120,ntmps120;go_wp2_with(first|((with_reducible refine gK j ?_ _ rfl rfl _ underlying36 rfl (by kernel_rfl) ?_);rfl)|(go_at_call 46;(with_reducible refine(h1 _).mono ?_);rintro e J⟨rfl,H⟩;replace j:=j.grow H;have K:=j.b0.cell;have N:=j.b1.cell;have M:=j.b2.cell;have Z:=j.b0.frozen 0;have Y:=j.b0.frozen 3)|((first|(go_at_call 80;(with_reducible refine(U _).mono ?_))|(go_at_call 80;(with_reducible refine(V _).mono ?_))|(go_at_call 172;(with_reducible refine(O _ (by grind)).mono ?_))|(go_at_call 172;(with_reducible refine(Q _ (by simpa using N 0)).mono ?_)));rintro e J⟨rfl,rfl⟩)|((with_reducible refine jv gv j rfl _ _ rfl rfl rfl (by kernel_rfl) rfl ?_ ?_);(·(simp[aK];done));intro J H K M;replace j:=H));exact β (gU results120 _ _ _ _ _ _ rfl rfl j.b2 underlying36 rfl (by kernel_rfl)) rfl ⟨rfl,j.below⟩)))
 all_goals(rw[Ξ (by decide)];go_enter func120,ntmps120;go_wp2_with(first|((with_reducible refine gK j ?_ _ rfl rfl _ underlying36 rfl (by kernel_rfl) ?_);rfl)|((with_reducible refine(h1 _).mono ?_);rintro e J⟨rfl,H⟩;replace j:=j.grow H;have K:=j.b0.cell;have N:=j.b1.cell;have M:=j.b2.cell;have Z:=j.b0.frozen 0;have Y:=j.b0.frozen 3)|((with_reducible first|refine(U _).mono ?_|refine(V _).mono ?_|refine(O _ (by simpa using N 0)).mono ?_|refine(Q _ (by simpa using N 0)).mono ?_);rintro e J⟨rfl,rfl⟩)|((with_reducible refine jv gv j rfl _ _ rfl rfl rfl (by kernel_rfl) rfl ?_ ?_);(·(simp[aK];done));intro J H K M;replace j:=H));exact β (gU results120 _ _ _ _ _ _ rfl rfl j.b2 underlying36 rfl (by kernel_rfl)) rfl ⟨rfl,j.below⟩)
def arL (x i:Nat):UInt8:=UInt8.ofNat (x / 256 ^ i % 256)
def be:Nat->Nat->List UInt8
 |0,_=> []
 |n+1,x=>arL x n::be n x
def num (bs:List UInt8):Nat:=bs.foldl (fun n b=>n*256+b.toNat) 0
def iC(n x:Nat):(be n x).length=n:=by induction n with|zero=>rfl|succ n j=>simp[be,j]
def aap(bs:List UInt8): ∀a,bs.foldl (λn b=>n*256+b.toNat) a=a*256 ^ bs.length+num bs:=by induction bs with|nil=>intro a;simp[num]|cons b bs j=>intro a;simp only[num,List.foldl_cons,bK,Nat.zero_mul,aJ];rw[j,j b.toNat,Nat.pow_succ,Nat.add_mul,Nat.mul_assoc,Nat.mul_comm 256,Nat.add_assoc]
theorem Us(b:UInt8)(bs:List UInt8):num (b::bs)=b.toNat*256 ^ bs.length+num bs:=by show List.foldl _ (0*256+b.toNat) bs=_;rw[aap];simp
def zh(x i:Nat):(arL x i).toNat=x / 256 ^ i % 256:=by unfold arL;rw[UInt8.toNat_ofNat'];omega
def KU(n x:Nat):num (be n x)=x % 256 ^ n:=by induction n with|zero=>simp[be,num,Nat.mod_one]|succ n j=>rw[be,Us,iC,j,zh];rw[Nat.pow_succ,Nat.mod_mul,Nat.mul_comm,Nat.add_comm]
def adI(n x:Nat):be n (x % 256 ^ n)=be n x:=by
 have key: ∀m,m<=n->be m (x % 256 ^ n)=be m x:=by intro m;induction m with|zero=>intro _;rfl|succ m j=>intro hm;simp only[be];rw[j (by omega)];congr 1;unfold arL;congr 1;(have e:256 ^ n=256 ^ m*(256*256 ^ (n-m-1)):=by rw[<-Nat.mul_assoc,<-Nat.pow_succ,<-Nat.pow_add];congr 1;omega);rw[e,Nat.mod_mul_right_div_self,Nat.mod_mul_right_mod]
 exact key n ig
def aj6{n x y:Nat}(j:x<256 ^ n)(H:y<256 ^ n)(h:be n x=be n y):x=y:=by have:=ξ num h;rw[KU,KU,dF j,dF H]at this;exact this
def Xu(m n x:Nat):be (m+n) x=be m (x / 256 ^ n)++be n x:=by induction m with|zero=>simp[be]|succ m j=>rw[show m+1+n=(m+n)+1 by omega];simp only[be,bQ,j];congr 1;unfold arL;rw[Nat.div_div_eq_div_mul,<-Nat.pow_add,Nat.add_comm n m]
structure P7 where
  kind:Int
  dir:Int
  fG:Int
  a:BitVec 32
  b:BitVec 32
  body:List UInt8
  je:BitVec 64
deriving DecidableEq
def P7.none_:P7:=⟨0,0,0,0,0,[],0⟩
def KW (p:P7):Prop:=0<=p.fG/\p.fG<16777216/\0<=p.dir/\p.dir<=1/\((p.kind=1/\p.dir=0/\p.b=0/\p.je=0/\p.body.length=0)\/(p.kind=2/\p.dir=1/\p.body.length=0)\/(p.kind=3/\p.dir=0/\p.body.length=0)\/(p.kind=5/\p.a=0/\1<=p.body.length/\p.body.length<=1023)\/(p.kind=6/\p.a=0/\p.body.length=1))
instance (p:P7):Decidable (KW p):=by unfold KW;infer_instance
def may (p:P7):Bool:=decide (KW p)
def FH{p:P7}:may p=true<->KW p:=by simp[may]
def nP (p:P7):List UInt8:=be 1 (2*p.kind+p.dir).toNat++be 3 p.fG.toNat++(if p.kind<=3 then be 4 p.a.toNat else [])++(if 2<=p.kind then be 4 p.b.toNat else [])++(if p.kind=5 then be 2 p.body.length else [])++p.body
def arx (p:P7):List UInt8:=if may p then nP p else []
def enc (p:P7):List UInt8:=if may p then nP p++(if 1<p.kind then be 8 p.je.toNat else []) else []
theorem YW(A B C:List UInt8)(i n:Nat)(hi:A.length=i)(hn:B.length=n):((A++(B++C)).drop i).take n=B:=by grind
theorem Ut(A B:List UInt8)(i:Nat)(hi:A.length=i):(A++B).drop i=B:=by grind
def adJ (p:P7):List UInt8:=if p.kind=1 then be 4 p.a.toNat else if p.kind<=3 then be 4 p.a.toNat++(be 4 p.b.toNat++be 8 p.je.toNat) else if p.kind=5 then be 4 p.b.toNat++(be 2 p.body.length++(p.body++be 8 p.je.toNat)) else be 4 p.b.toNat++(p.body++be 8 p.je.toNat)
theorem aj7(p:P7)(h:may p=true):enc p=be 1 (2*p.kind+p.dir).toNat++(be 3 p.fG.toNat++adJ p):=by
 have hm:=FH.1 h;obtain⟨k,d,t,a,b,body,je⟩:=p;simp only[enc,h,if_true,nP,adJ];unfold KW at hm;simp only at hm |-;rcases hm.2.2.2.2 with⟨rfl,_,_,_,j⟩ |⟨rfl,_,j⟩ |⟨rfl,_,j⟩ |⟨rfl,_,_,_⟩ |⟨rfl,_,_⟩;.grind
 .grind
 .grind
 .simp
 .simp
def KX (k:Nat) (d t first:Nat) (rest:List UInt8):Option P7:=if k=1 then some ⟨1,d,t,bT 32 first,0,[],0⟩ else if rest.length<8 then none else let je:=bT 64 (num (rest.drop (rest.length-8)));let r:=rest.take (rest.length-8);if k=2\/k=3 then some ⟨k,d,t,bT 32 first,bT 32 (num (r.take (min 4 r.length))),[],je⟩ else if k=5 then some ⟨5,d,t,0,bT 32 first,r.drop (min 2 r.length),je⟩ else if k=6 then some ⟨6,d,t,0,bT 32 first,r,je⟩ else some ⟨k,d,t,0,0,[],je⟩
def Bf (bs:List UInt8):Option P7:=if bs.length<8 then none else KX ((nth bs 0).toNat / 2) ((nth bs 0).toNat % 2) (num ((bs.drop 1).take 3)) (num ((bs.drop 4).take 4)) (bs.drop 8)
def vY (bs:List UInt8):Option P7:=match Bf bs with
 |some q=>if may q=true/\enc q=bs then some q else none
 |none=>none
def FI(a:BitVec 32):num (be 4 a.toNat)=a.toNat:=by rw[KU,dF];have:=a.isLt;simpa using this
def KY(a:BitVec 64):num (be 8 a.toNat)=a.toNat:=by rw[KU,dF];have:=a.isLt;simpa using this
def adK(x:Nat)(l:List UInt8)(j:x<256):(nth (be 1 x++l) 0).toNat=x:=by show(arL x 0).toNat=x;rw[zh];simp;omega
theorem aaq(p:P7)(h:may p=true):Bf (enc p)=some p:=by
 have hm:=FH.1 h;rw[aj7 p h];obtain⟨k,d,t,a,b,body,je⟩:=p;unfold KW at hm;simp only[adJ]at hm |-;obtain⟨h1,Z,h3,h4,V⟩:=hm;obtain⟨t,rfl⟩: ∃n:Nat,t=n:=⟨t.toNat,by omega⟩;obtain⟨d,rfl⟩: ∃n:Nat,d=n:=⟨d.toNat,by omega⟩;have Y:num (be 3 (t:Int).toNat)=t:=by rw[KU,dF] <;> simp <;> omega
 have M: ∀(j:Nat) (J K:List UInt8),j<=6->J.length=4->Bf (be 1 (2*(j:Int)+d).toNat++(be 3 (t:Int).toNat++(J++K)))=KX j d t (num J) K:=by
  intro j J K hk H;have U:(2*(j:Int)+d).toNat=2*j+d:=by omega
  rw[U];unfold Bf;have e1: ¬((be 1 (2*j+d)++(be 3 (t:Int).toNat++(J++K))).length<8):=by simp[iC,H];omega
  rw[Ξ e1,adK _ _ (by omega),YW _ _ _ 1 3 (iC _ _) (iC _ _),Y];have e2:be 1 (2*j+d)++(be 3 (t:Int).toNat++(J++K))=(be 1 (2*j+d)++be 3 (t:Int).toNat)++(J++K):=by simp
  rw[e2,YW _ _ _ 4 4 (by rfl) H];have e3:(be 1 (2*j+d)++be 3 (t:Int).toNat)++(J++K)=((be 1 (2*j+d)++be 3 (t:Int).toNat)++J)++K:=by simp
  rw[e3,Ut _ _ 8 (by simp[iC,H])];rw[show(2*j+d) / 2=j by omega,show(2*j+d) % 2=d by omega]
 have N: ∀(X:List UInt8),(X++be 8 je.toNat).drop ((X++be 8 je.toNat).length-8)=be 8 je.toNat:=λX=>Ut _ _ _ (by simp[iC]);have O: ∀(X:List UInt8),(X++be 8 je.toNat).take ((X++be 8 je.toNat).length-8)=X:=λX=>by
  have:(X++be 8 je.toNat).length-8=X.length:=by simp[iC]
  rw[this];simp
 rcases V with⟨rfl,Q,rfl,rfl,H⟩ |⟨rfl,Q,H⟩ |⟨rfl,Q,H⟩ |⟨rfl,rfl,aa,ac⟩ |⟨rfl,rfl,H⟩;.have:=M 1 (be 4 a.toNat) [] (by omega) (iC _ _);simp only[List.append_nil]at this;simp only[if_true];rw[show((1:Nat):Int)=1 from rfl]at this;rw[this,dw H];simp[KX,FI]
 focus(have:=M 2 (be 4 a.toNat) (be 4 b.toNat++be 8 je.toNat) (by omega) (iC _ _);rw[show((2:Nat):Int)=2 from rfl]at this;simp only[show ¬((2:Int)=1) by decide,if_false,show(2:Int)<=3 by decide,if_true])
 rotate_left;focus(have:=M 3 (be 4 a.toNat) (be 4 b.toNat++be 8 je.toNat) (by omega) (iC _ _);rw[show((3:Nat):Int)=3 from rfl]at this;simp only[show ¬((3:Int)=1) by decide,if_false,show(3:Int)<=3 by decide,if_true])
 rotate_left;.have:=M 5 (be 4 b.toNat) ((be 2 body.length++body)++be 8 je.toNat) (by omega) (iC _ _);rw[show((5:Nat):Int)=5 from rfl,List.append_assoc (be 2 body.length)]at this;simp only[show ¬((5:Int)=1) by decide,if_false,show ¬((5:Int)<=3) by decide,if_true];rw[this,<-List.append_assoc];unfold KX;rw[Ξ (by decide),Ξ (by grind),N,O];simp[FI,KY,iC]
 .have:=M 6 (be 4 b.toNat) (body++be 8 je.toNat) (by omega) (iC _ _);rw[show((6:Nat):Int)=6 from rfl]at this;simp only[show ¬((6:Int)=1) by decide,if_false,show ¬((6:Int)<=3) by decide,show ¬((6:Int)=5) by decide];rw[this];unfold KX;rw[Ξ (by decide),Ξ (by grind),N,O];simp[FI,KY]
 all_goals(rw[this,dw H];unfold KX;rw[Ξ (by decide),Ξ (by simp[iC]),N,O];simp[FI,KY,iC,aY])
theorem GU(bs:List UInt8)(q:P7):vY bs=some q<->may q=true/\enc q=bs:=by
 constructor;.intro h;unfold vY at h;grind
 .rintro⟨h1,rfl⟩;unfold vY;rw[aaq q h1];simp[h1]
def nI (k:K4) (p:P7):Bool:=may p&&decide (p.kind≠1)&&(Mac k (arx p)==p.je)
def Qn(l:List UInt8)(i:Nat)(x:UInt8)(hi:i<l.length):nth (l.set i x) i=x:=by simp[nth,bH,hi]
def Xv(l:List UInt8)(i j:Nat)(x:UInt8)(h:i≠j):nth (l.set i x) j=nth l j:=by simp[nth,bH,List.getElem?_set_ne h]
theorem asl(k:K4)(s q:P7)(N:nI k s=true)(M:nI k q=true)(i:Nat)(x:UInt8)(hi:i<(enc s).length)(hx:x≠nth (enc s) i):enc q≠(enc s).set i x:=by
 intro h;simp only[nI,bM,decide_eq_true_eq,beq_iff_eq]at N M;obtain⟨⟨V,Y⟩,Z⟩:=N;obtain⟨⟨q1,q2⟩,q3⟩:=M;have J: ∀p:P7,may p=true->p.kind≠1->enc p=nP p++be 8 p.je.toNat/\arx p=nP p:=by
  intro p j h1;have hm:=FH.1 j;have:1<p.kind:=by unfold KW at hm;omega
  exact⟨by simp[enc,j,this],by simp[arx,j]⟩
 obtain⟨es,ts⟩:=J s V Y;obtain⟨O,tq⟩:=J q q1 q2;rw[ts]at Z;rw[tq]at q3;have K:(nP q).length=(nP s).length:=by have:=ξ List.length h;rw[List.length_set,es,O]at this;simp[iC]at this;exact this
 have same:nP q=nP s/\q.je=s.je:=by
  by_cases aa:i<(nP s).length;·(have h1:nP q++be 8 q.je.toNat=(nP s).set i x++be 8 s.je.toNat:=by grind);obtain⟨H,Q⟩:=List.append_inj h1 (by grind);have hm:q.je=s.je:=BitVec.eq_of_toNat_eq (aj6 (by omega) (by omega) Q);refine⟨?_,hm⟩;(have U:Mac k (nP q)=Mac k (nP s):=by grind);refine(VI k (nP q) (nP s) K (i / 8) ?_).1 U;intro ac hj;rw[H];exact Xv _ _ _ _ (by omega)
  ·(have h1:nP q++be 8 q.je.toNat=nP s++(be 8 s.je.toNat).set (i-(nP s).length) x:=by grind);obtain⟨H,_⟩:=List.append_inj h1 K;grind
 have e:enc q=enc s:=by grind
 rw[e]at h;have:=Qn (enc s) i x hi;grind
def arZ (bs:List UInt8):ByteArray:=⟨bs.toArray⟩
@[go_sem] theorem agF (a:List UInt8):(arZ a).toList=a:=by simp[arZ]
theorem xZ(h:aq2 w A c bs):(convert 45 9 (.slice A bs.length c)).run aj w=.ok (.string (arZ bs)) w:=by
 cases A with
 |none=>
  have h0:bs= []:=by cases bs with|nil=>rfl|cons x xs=>obtain⟨b,off,e,_⟩:=h.at_ (k:=0) (by simp);cases e
  subst h0;exact run_convert_bytes_nil w 45 5 dW underlying5 _ _ 9 underlying9
 |some a=>refine run_convert_bytes_back (P:=aj) w 45 9 5 a c bs dW underlying5 underlying9 (λH j=>?_);obtain⟨b,off,e,_,hc⟩:=h.at_ j;injection e with e;subst e;rw[Addr.add_lit,hc];unfold q8 nth;rw[bH,aI j];rfl
def Pd.laysJoin_ren:Go.Shelf.Ren:=⟨fun |14=>152 |15=>201 |n=>n,fun |26=>50 |22=>45 |3=>3 |4=>4 |0=>0 |9=>9 |20=>20 |5=>5 |n=>n,fun |n=>n⟩
def Pd.laysJoin:Go.Proofs.SlLaysJ.n14 aj Pd.laysJoin_ren where
  mixed:=by rfl
  f14:=Tryz.func152.trans (ξ some (by rfl))
  f15:=Tryz.func201.trans (ξ some (by rfl))
  t0:=underlying0
  a0:=isAgg0
  z0:=sizeOf0
  v0:=zeroValue0
  t3:=bG
  a3:=isAgg3
  z3:=sizeOf3
  v3:=zeroValue3
  t4:=dL
  a4:=isAgg4
  z4:=sizeOf4
  v4:=zeroValue4
  t9:=underlying9
  a9:=isAgg9
  z9:=sizeOf9
  v9:=zeroValue9
  t20:=underlying20
  a20:=isAgg20
  z20:=sizeOf20
  v20:=zeroValue20
  t22:=dW
  a22:=isAgg45
  z22:=sizeOf45
  v22:=zeroValue45
  t26:=underlying50
  a26:=isAgg50
  z26:=sizeOf50
  v26:=zeroValue50
  t5:=underlying5
  z5:=sizeOf5
  i5:=by kernel_rfl
def Pd.MO:Go.Shelf.Ren:=⟨fun |115=>106 |n=>n,fun |37=>45 |4=>4 |9=>9 |5=>5 |n=>n,fun |n=>n⟩
def Pd.aar:Go.Proofs.Lays.nb115 aj Pd.MO where
  mixed:=by rfl
  f115:=Tryz.func106.trans (ξ some (by rfl))
  t4:=dL
  a4:=isAgg4
  z4:=sizeOf4
  v4:=zeroValue4
  t9:=underlying9
  a9:=isAgg9
  z9:=sizeOf9
  v9:=zeroValue9
  t37:=dW
  a37:=isAgg45
  z37:=sizeOf45
  v37:=zeroValue45
  t5:=underlying5
  a5:=isAgg5
  z5:=sizeOf5
  v5:=zeroValue5
def adL{a:δ}(h:w.cell? a=some v):a.block<w.heap.size:=by
 rcases eu a.block w with j |j;.exact j
 .simp[World.cell?,dI j]at h
def BX(a:BitVec 32)(i:Nat):UInt8.ofBitVec ((a >>> (8*i)).setWidth 8)=arL a.toNat i:=by apply UInt8.toNat_inj.1;rw[zh];show((a >>> (8*i)).setWidth 8).toNat=_;rw[BitVec.toNat_setWidth,BitVec.toNat_ushiftRight,Nat.shiftRight_eq_div_pow,Nat.pow_mul]
def be4(a:BitVec 32):be 4 a.toNat= [UInt8.ofBitVec ((a >>> 24).setWidth 8),UInt8.ofBitVec ((a >>> 16).setWidth 8),UInt8.ofBitVec ((a >>> 8).setWidth 8),UInt8.ofBitVec (a.setWidth 8)]:=by have h0:=BX a 0;have h1:=BX a 1;have j:=BX a 2;have H:=BX a 3;simp only[Nat.mul_zero,Nat.reduceMul,BitVec.ushiftRight_zero]at h0 h1 j H;simp[be,h0,h1,j,H]
theorem jG.holds(h:jG bs v w):Lib.HoldsBytes w v bs:=by
 obtain⟨A,c,rfl,hB⟩:=h;refine⟨A,c,rfl,?_,?_⟩;.rintro rfl;cases bs with|nil=>rfl|cons x xs=>obtain⟨b,off,e,_⟩:=hB.at_ (k:=0) (by simp);cases e
 .rintro a rfl i x j;have hi:i<bs.length:=by grind
  obtain⟨b,off,e,_,hc⟩:=hB.at_ hi;injection e with e;subst e;rw[Addr.add_lit,hc];have:nth bs i=x:=by unfold nth;rw[bH,j];rfl
  rw[this];rfl
theorem FK{B:Nat}{l:List UInt8}(h:Lib.FreshBytes B w v l):fV B l v w:=by
 obtain⟨g,cap,M,rfl,Q,V,hm,hz,Y,N,hc,O⟩:=h;have K:0<l.length->g<w.heap.size:=λh0=>adL (hc 0 (by omega));refine⟨_,cap,rfl,⟨?_,V,hm⟩,λh0=>⟨g,rfl,Q,K h0,λi hi=>O i (by omega)⟩⟩;intro h0;rw[aq8]at h0;refine⟨g,0,rfl,K h0,λj u J=>?_⟩;have U:j<l.length:=by
  rcases eu j l.length with h |h;.exact h
  .rw[dQ (by rw[aq8];exact h)]at J;cases J
 rw[aJ,hc j (by omega),<-J];unfold aq6;rw[bW];have H:j<M.length:=by omega
 have e1:l[j]? =some (UInt8.ofNat (M[j]).toNat):=by rw[<-N];simp[Lib.bytesOf,U,H]
 rw[e1];have Z:=Y _ (List.getElem_mem H);rw[bH,aI H];simp only[eG,eF];unfold q8;congr 2;simp only[UInt8.toNat_ofNat'];omega
theorem Xw(j:List (List UInt8)):Lib.join j []=j.flatten:=by cases j with|nil=>rfl|cons x r=>rw[Lib.join_cons,Lib.joinTail];simp
theorem Qo(b n c:Nat)(vs:List Θ)(j:List (List UInt8))(w:ω)(hn:vs.length=n)(K:j.length=n)(h1:1<=n)(hc:n<=c)(Q: ∀i v,vs[i]? =some v->w.cell? ⟨b,i,none⟩=some v)(U: ∀(i:Nat) v l,vs[i]? =some v->j[i]? =some l->jG l v w)(ac:Lib.lens j<=65536)(ae:n<=65536):Γ aj 105 #[.slice b n c] w λe w'=> ∃v,e=.returned v/\fV w j.flatten v w'/\w w':=by
 have Y:Γ aj 152 #[.slice b n c,nS] w λe w'=> ∃v,e=.returned v/\fV w j.flatten v w'/\w w':=by
  by_cases V:2<=n;.have Z:Lib.PartsAt w ⟨b,0,none⟩ vs j:=⟨by omega,λi v H=>by rw[Addr.add_lit,aJ];exact Q i v H,λi v l H K=>(U i v l H K).holds⟩;refine(Any.bytes_Join_many Pd.laysJoin b 0 n c vs j nS [] w K V Z hc ⟨none,0,rfl,λ_=>rfl,λa h=>by cases h⟩ (by omega) (by grind)).mono ?_;rintro e w'⟨v,rfl,M,J⟩;refine⟨v,rfl,?_,J⟩;have:=FK M;rwa [Xw]at this
  ·(obtain rfl:n=1:=by omega);match vs,j,hn,K with| [v0],[l0],_,_=>have H:=U 0 v0 l0 rfl rfl;have O:=Q 0 v0 rfl;have hh:=H.holds;obtain⟨A,c0,rfl,hB⟩:=H;simp only[List.flatten_cons,List.flatten_nil,List.append_nil];by_cases h0:l0.length=0;(.have ad:=dw h0;subst ad;refine(Any.bytes_Join_one_empty Pd.laysJoin b 0 c A c0 nS w O).mono ?_;rintro e w'⟨rfl,rfl⟩;exact⟨_,rfl,⟨none,0,rfl,aq2.nil _,λh=>absurd h (by simp)⟩,aH _ _⟩);.obtain⟨p,cap,N,_,aa⟩:=hh;simp only[dV,true_and]at N;obtain⟨rfl,rfl⟩:=N;obtain⟨b0,off,rfl,_⟩:=hB.at_ (k:=0) (by omega);refine(Any.bytes_Join_one Pd.laysJoin b 0 c _ c0 l0 nS w O (λi x hx=>aa _ rfl i x hx) (by omega) (by simp[Lib.lens]at ac;omega)).mono ?_;rintro e w'⟨v,rfl,M,J⟩;exact⟨v,rfl,FK M,J⟩
 go_enter func105,ntmps105;go_wp2_with(go_at_call 152;refine Y.mono ?_;rintro e w'⟨v,rfl,H,J⟩);go_ret;simp_all
def Qp(g n:Nat)(vs:Array Θ)(j:List (List UInt8))(w:ω)(H:fK w g 45 vs)(hn:vs.size=n)(J:j.length=n)(h1:1<=n)(N: ∀(i:Nat) v l,vs.toList[i]? =some v->j[i]? =some l->jG l v w)(K:Lib.lens j<=65536)(M:n<=65536):Γ aj 105 #[.slice g n n] w λe w'=> ∃v,e=.returned v/\fV w j.flatten v w'/\w w':=Qo g n n vs.toList j w (by omega) J h1 ig (λi v O=>by rw[H.cell];simpa using O) N K M
set_option maxRecDepth 16000 in
theorem Ot(A1:Option δ)(n1 c1:Nat)(xs:List UInt8)(A2:Option δ)(n2 c2:Nat)(j:List UInt8)(w:ω)(h1:n1=xs.length)(M:n2=j.length)(O:aq2 w A1 c1 xs)(Q:aq2 w A2 c2 j):Γ aj 106 #[.slice A1 n1 c1,.slice A2 n2 c2] w λe w'=>e=.returned (.bool (decide (xs=j)))/\w'=w:=by
 subst h1;subst M;have num: ∀l:List UInt8,strOfNums (l.map λb=>(b.toNat:Int))=arZ l:=by
  intro l;unfold arZ;have:=strOfNums_data (l.map λb=>(b.toNat:Int));have e:(strOfNums (l.map λb=>(b.toNat:Int))).data.toList=l:=by rw[this,List.map_map];(conv=>rhs;rw[<-List.map_id l]);apply List.map_congr_left;intro b _;apply UInt8.toNat_inj.1;simp
  cases N:strOfNums (l.map λb=>(b.toNat:Int)) with|mk d=>rw[N]at e;simp only at e;rw[<-e]
 have J:=xZ O;have K:=xZ Q;rw[<-num]at J K;have h:=Any.bytes_Equal {Pd.aar with} _ _ _ _ w J K;have H: ∀l:List UInt8,Lib.bytesOf (l.map λb=>(b.toNat:Int))=l:=by
  intro l;unfold Lib.bytesOf;rw[List.map_map];conv=>rhs;rw[<-List.map_id l]
  apply List.map_congr_left;intro b _;apply UInt8.toNat_inj.1;simp
 rw[H,H]at h;refine h.mono ?_;grind
def adM(bs:List UInt8)(b:UInt8):num (bs++ [b])=num bs*256+b.toNat:=by unfold num;rw[List.foldl_append];rfl
def adN(bs:List UInt8)(j:Nat)(h:j<bs.length):num (bs.take (j+1))=num (bs.take j)*256+(nth bs j).toNat:=by
 rw[List.take_add_one,aI h];have:nth bs j=bs[j]:=by simp[nth,bH,h]
 rw[this];exact adM _ _
def adO(n:Nat)(b:UInt8):(bT 64 n <<< 8 ||| bT 64 b.toNat)=bT 64 (n*256+b.toNat):=by rw[<-Eu _ _ b.toNat_lt];apply BitVec.eq_of_toNat_eq;rw[BitVec.toNat_add,BitVec.toNat_shiftLeft,BitVec.toNat_ofNat,BitVec.toNat_ofNat,BitVec.toNat_ofNat,Nat.shiftLeft_eq];have:=b.toNat_lt;omega
theorem FM(A:Option δ)(n c:Nat)(bs:List UInt8)(w:ω)(hn:n=bs.length)(hB:aq2 w A c bs)(O:bs.length<=65536):Γ aj 104 #[.slice A n c] w λe w'=>e=.returned (q64 (bT 64 (num bs)))/\w'=w:=by
 subst hn;go_enter func104,ntmps104;go_wp2_with fail;go_loop [3,8] (λx i=> ∃j:Nat,j<=bs.length/\i=.int .i64 j/\x=q64 (bT 64 (num (bs.take j)))) (λ_ i=>bs.length-(intOf i).toNat);case atStart=>exact⟨0,aV _,rfl,rfl⟩
 case round=>
  obtain⟨j,M,rfl,rfl⟩:=hrel;by_cases H:j<bs.length;.obtain⟨b,off,rfl,Q,K⟩:=hB.at_ H;have J:=ah ((ξ (bT 64) (adN bs j H)).trans (adO _ _).symm);(have N:(j:Int)<bs.length:=by omega);go_wp2_with fail;refine⟨⟨j+1,by omega,by go_num,by rw[J.out]⟩,by simp[intOf];omega⟩
  ·(obtain rfl:j=bs.length:=by omega);go_wp2_with fail;go_ret;simp
def ar6(l:List UInt8):((l.length:Int)==0)=decide (l= []):=by rw[Bool.eq_iff_iff];simp
theorem YX(l:List UInt8):((l.length:Int)==1)=decide (l.length=1):=by grind
theorem Uu(p:P7)(A:Option δ)(n c:Nat)(w:ω)(hn:n=p.body.length)(J:p.body.length<=65536):Γ aj 149 #[.agg #[.int .i64 p.kind,.int .i64 p.dir,.int .i64 p.fG,q32 p.a,q32 p.b,.slice A n c,q64 p.je]] w λe w'=>e=.returned (.bool (may p))/\w w':=by
 subst hn;obtain⟨kind,dir,fG,a,b,body,je⟩:=p;simp only at J |-;have j: ∀o,w (w.alloc o):=λo=>gY.alloc ig o;by_cases g:0<=fG/\fG<16777216/\0<=dir/\dir<=1;.obtain⟨K,M,N,O⟩:=g;go_enter func149,ntmps149;go_wp2;all_goals go_ret;refine⟨ξ (λb=>Ending.returned (Value.bool b)) ?_,j _⟩;simp_all[may,KW];try first|exact ar6 _|exact YX _|(rw[Bool.eq_iff_iff];grind)|omega
 .have H:may ⟨kind,dir,fG,a,b,body,je⟩=false:=by unfold may;rw[decide_eq_false_iff_not];intro h;exact g ⟨h.1,h.2.1,h.2.2.1,h.2.2.2.1⟩
  rw[H];go_enter func149,ntmps149;go_wp2;all_goals go_ret;refine⟨ξ (λb=>Ending.returned (Value.bool b)) ?_,j _⟩;simp_all[may,KW];try first|exact ar6 _|exact YX _|(rw[Bool.eq_iff_iff];simp;omega)|omega
section
set_option maxRecDepth 16000
section
variable {P:χ} (w:ω) (src dst:τ)
def Ie(n:Int)(H:P.underlying src=some (.int .i64))(j:P.underlying dst=some (.int .u32)):(convert src dst (.int .i64 n)).run P w=.ok (q32 (aQ 32 n)) w:=by
 have e:IntKind.u32.wrap n=((aQ 32 n).toNat:Int):=by rw[IntKind.wrap_u32,BitVec.toNat_ofInt];omega
 simp[convert,ν H,ν j,Conv.intToInt,e,q32]
def Ig(n:Int)(H:P.underlying src=some (.int .i64))(j:P.underlying dst=some (.int .u64)):(convert src dst (.int .i64 n)).run P w=.ok (q64 (aQ 64 n)) w:=by
 have e:IntKind.u64.wrap n=((aQ 64 n).toNat:Int):=by rw[IntKind.wrap_u64,BitVec.toNat_ofInt];omega
 simp[convert,ν H,ν j,Conv.intToInt,e,q64]
end
attribute [local go_sem high] Ie Ig
def Bg (x:Nat):Θ->ω->Prop:=fun v w=> ∃g,v=.slice (some ⟨g,0,none⟩) 4 4/\aq2 w (some ⟨g,0,none⟩) 4 (be 4 x)
theorem Bg.grow{x:Nat}{v:Θ}{w w':ω}(h:Bg x v w)(j:w w'):Bg x v w':=by obtain⟨g,e,hB⟩:=h;exact⟨g,e,hB.below j⟩
theorem Bg.is{x:Nat}{v:Θ}{w:ω}(h:Bg x v w):jG (be 4 x) v w:=by obtain⟨g,e,hB⟩:=h;exact⟨_,4,by rw[e,iC],hB⟩
def Qq(a:BitVec 32)(w:ω):Γ aj 151 #[q32 a] w λe w'=> ∃v,e=.returned v/\Bg a.toNat v w'/\w w':=by
 go_enter func151,ntmps151;go_wp2;go_ret;refine⟨_,rfl,⟨w,rfl,?_,?_,by decide⟩,gY.alloc ig _⟩;.rw[be4];exact Row.block (fK.new w _ _)
 .rw[iC];exact aW _
def arF (w:ω):List Θ->List (List UInt8)->Prop
 | [],[]=>True
 |v::vs,l::ls=>jG l v w/\arF w vs ls
 |_,_=>False
def arF.grow{w w':ω}(H:w w'): ∀(vs:List Θ) (j:List (List UInt8)),arF w vs j->arF w' vs j
 | [],[],_=>trivial
 |_::vs,_::j,h=>⟨h.1.grow H,arF.grow H vs j h.2⟩
 | [],_::_,h=>h.elim
 |_::_,[],h=>h.elim
def arF.get{w:ω}: ∀(vs:List Θ) (j:List (List UInt8)),arF w vs j->vs.length=j.length/\ ∀(i:Nat) v l,vs[i]? =some v->j[i]? =some l->jG l v w
 | [],[],_=>⟨rfl,λi v l h=>by simp at h⟩
 |v::vs,l::j,h=>by obtain⟨h1,K⟩:=arF.get vs j h.2;refine⟨by simp[h1],λi N M J H=>?_⟩;match i with|0=>simp only[eP,aO]at J H;subst J;subst H;exact h.1|i+1=>simp only[fB]at J H;exact K i N M J H
 | [],_::_,h=>h.elim
 |_::_,[],h=>h.elim
def zi (ls:List (List UInt8)):Θ->ω->Prop:=fun v w=> ∃g vs,v=.slice (some ⟨g,0,none⟩) ls.length ls.length/\fK w g 45 vs/\arF w vs.toList ls
theorem zi.grow{J:List (List UInt8)}{v:Θ}{w w':ω}(h:zi J v w)(j:w w'):zi J v w':=by obtain⟨g,vs,e,H,K⟩:=h;exact⟨g,vs,e,H.below j H.lt,arF.grow j _ _ K⟩
def BZ(j:List (List UInt8))(g n:Nat)(vs:Array Θ)(w:ω)(hn:n=j.length)(M:fK w g 45 vs)(K:arF w vs.toList j)(h1:1<=j.length)(O:j.length<=8)(N:Lib.lens j<=65536):Γ aj 105 #[.slice (some ⟨g,0,none⟩) n n] w λe w'=> ∃v,e=.returned v/\fV w j.flatten v w'/\w w':=by subst hn;obtain⟨H,J⟩:=arF.get _ _ K;exact Qp g j.length vs j w M (by simpa using H) rfl h1 J N (by omega)
def Qr (k d t:Int):BitVec 32:=aQ 32 (k*2+d) <<< 24 ||| aQ 32 t
theorem adP(k d t:Int)(Y:0<=k)(Z:k<=6)(U:0<=d)(V:d<=1)(ht:0<=t)(aa:t<16777216):be 4 (Qr k d t).toNat=be 1 (2*k+d).toNat++be 3 t.toNat:=by
 obtain⟨t,rfl⟩: ∃n:Nat,t=n:=⟨t.toNat,by omega⟩;obtain⟨x,O⟩: ∃n:Nat,k*2+d=n:=⟨(k*2+d).toNat,by omega⟩;have e2:2*k+d=x:=by omega
 rw[e2];have Q:x<=13:=by omega
 have e:(Qr k d t).toNat=x*16777216+t:=by
  unfold Qr;rw[O];have h1:aQ 32 (x:Int)=bT 32 x:=by simp
  have j:aQ 32 (t:Int)=bT 32 t:=by simp
  rw[h1,j,BitVec.toNat_or,BitVec.toNat_shiftLeft,BitVec.toNat_ofNat,BitVec.toNat_ofNat,Nat.shiftLeft_eq];have H:x % 2 ^ 32=x:=dF (by simp;omega);have J:t % 2 ^ 32=t:=dF (by simp;omega);rw[H,J];have K:x*2 ^ 24 % 2 ^ 32=2 ^ 24*x:=by rw[Nat.mul_comm];exact dF (by simp;omega)
  rw[K,<-Nat.two_pow_add_eq_or_of_lt (by simp;omega)];simp;omega
 rw[e,show(4:Nat)=1+3 from rfl,Xu];have M:(x*16777216+t) / 256 ^ 3=x:=by simp;omega
 rw[M,<-adI 3 (x*16777216+t)];have N:(x*16777216+t) % 256 ^ 3=t:=by simp;omega
 rw[N];simp
def Qs(kind dir fG:Int)(a b:BitVec 32)(body:List UInt8)(je:BitVec 64)(A:Option δ)(c:Nat)(w:ω)(j:body.length<=65536):Γ aj 149 #[.agg #[.int .i64 kind,.int .i64 dir,.int .i64 fG,q32 a,q32 b,.slice A body.length c,q64 je]] w λe w'=>e=.returned (.bool (may ⟨kind,dir,fG,a,b,body,je⟩))/\w w':=Uu ⟨kind,dir,fG,a,b,body,je⟩ A body.length c w rfl j
theorem aas(kind dir fG:Int)(w:ω)(K:0<=kind)(M:kind<=6)(H:0<=dir)(J:dir<=1)(N:0<=fG)(O:fG<16777216):Γ aj 151 #[q32 (aQ 32 (kind*2+dir) <<< 24 ||| aQ 32 fG)] w λe w'=> ∃g,e=.returned (.slice (some ⟨g,0,none⟩) 4 4)/\aq2 w' (some ⟨g,0,none⟩) 4 (be 1 (2*kind+dir).toNat++be 3 fG.toNat)/\w w':=by rw[<-adP kind dir fG K M H J N O];refine(Qq (Qr kind dir fG) w).mono ?_;rintro e w'⟨v,rfl,⟨g,rfl,hB⟩,j⟩;exact⟨g,rfl,hB,j⟩
def rM{w:ω}{g:Nat}{l:List UInt8}(h:aq2 w (some ⟨g,0,none⟩) 4 l)(j:l.length=4):jG l (.slice (some ⟨g,0,none⟩) 4 4) w:=⟨_,4,by rw[j],h⟩
def Qu (n:Nat):Θ->ω->Prop:=fun v w=> ∃g,v=.slice (some ⟨g,2,none⟩) 2 2/\aq2 w (some ⟨g,2,none⟩) 2 (be 2 n)
theorem Qu.grow{n:Nat}{v:Θ}{w w':ω}(h:Qu n v w)(j:w w'):Qu n v w':=by obtain⟨g,e,hB⟩:=h;exact⟨g,e,hB.below j⟩
def aj8(n:Nat)(h:n<65536):be 4 (bT 32 n).toNat=be 2 0++be 2 n:=by
 have e:(bT 32 n).toNat=n:=by simp;omega
 rw[e,show(4:Nat)=2+2 from rfl,Xu];have h0:n / 256 ^ 2=0:=by simp;omega
 rw[h0]
def aat{w:ω}{g n:Nat}(h:aq2 w (some ⟨g,0,none⟩) 4 (be 4 (bT 32 n).toNat))(hn:n<65536):aq2 w (some ⟨g,2,none⟩) 2 (be 2 n):=by refine⟨λh0=>?_,by rw[iC];exact aW _,by decide⟩;obtain⟨b,off,e,j,hc⟩:=h.row (by rw[aq8,iC];decide);simp only[aO,cZ,and_true]at e;obtain⟨rfl,rfl⟩:=e;refine⟨g,2,rfl,j,λJ u H=>?_⟩;have:=hc (2+J) u (by rw[aj8 n hn,vJ,List.getElem?_append_right (by rw[aq8,iC];omega),aq8,iC,Nat.add_sub_cancel_left];exact H);rwa [aJ]at this
def Xx{w:ω}{H l1 l2:List UInt8}{J K M:Θ}(h0:jG H J w)(h1:jG l1 K w)(N:jG l2 M w):zi [H,l1,l2] (.slice (some ⟨w,0,none⟩) 3 3) (w.alloc (.cells #[J,K,M] 45)):=have j:=(aH _ w).alloc ig _;⟨_,_,rfl,fK.new _ _ _,h0.grow j,h1.grow j,N.grow j,trivial⟩
def aj9{w:ω}{H l1 l2 l3:List UInt8}{J K M N:Θ}(h0:jG H J w)(h1:jG l1 K w)(O:jG l2 M w)(Q:jG l3 N w):zi [H,l1,l2,l3] (.slice (some ⟨w,0,none⟩) 4 4) (w.alloc (.cells #[J,K,M,N] 45)):=have j:=(aH _ w).alloc ig _;⟨_,_,rfl,fK.new _ _ _,h0.grow j,h1.grow j,O.grow j,Q.grow j,trivial⟩
theorem Xy(p:P7)(A:Option δ)(n c:Nat)(w:ω)(hn:n=p.body.length)(hB:aq2 w A c p.body)(aw:p.body.length<=2000):Γ aj 150 #[.agg #[.int .i64 p.kind,.int .i64 p.dir,.int .i64 p.fG,q32 p.a,q32 p.b,.slice A n c,q64 p.je]] w λe w'=> ∃v,e=.returned v/\fV w (arx p) v w'/\w w':=by
 subst hn;obtain⟨kind,dir,fG,a,b,body,je⟩:=p;simp only at aw hB |-;have af:=λW=>Qs kind dir fG a b body je A c W (by omega);cases hm:may ⟨kind,dir,fG,a,b,body,je⟩ with
 |false=>
  have ht:arx ⟨kind,dir,fG,a,b,body,je⟩= []:=by simp[arx,hm]
  rw[hm]at af;rw[ht];clear hm ht;go_enter func150,ntmps150;go_wp2_with(go_at_call 149;(with_reducible refine(af _).mono ?_);rintro e w1⟨rfl,J⟩);go_ret;exact⟨_,rfl,⟨none,0,rfl,aq2.nil _,λh=>absurd h (by simp)⟩,iP J⟩
 |true=>
  have ht:arx ⟨kind,dir,fG,a,b,body,je⟩=nP ⟨kind,dir,fG,a,b,body,je⟩:=by simp[arx,hm]
  rw[ht];clear ht;have hM:=FH.1 hm;rw[hm]at af;clear hm;unfold KW at hM;simp only at hM;obtain⟨g1,g2,g3,g4,hM⟩:=hM;have ac:=λW (h:0<=kind/\kind<=6)=>aas kind dir fG W h.1 h.2 g3 g4 g1 g2;have U:(be 1 (2*kind+dir).toNat++be 3 fG.toNat).length=4:=by simp[iC]
  rcases hM with⟨rfl,-,-,-,M⟩ |⟨rfl,-,M⟩ |⟨rfl,-,M⟩ |⟨rfl,-,-,M⟩ |⟨rfl,-,M⟩;all_goals have ac:=λW=>ac W (by omega);replace M:=ah M;simp only[Int.reduceMul]at ac U;generalize ae:be 1 _++be 3 fG.toNat=ar at ac U;replace ae:=ah ae;go_enter func150,ntmps150;go_wp2_with(first|(go_at_call 149;(with_reducible refine(af _).mono ?_);rintro e w1⟨rfl,J⟩;obtain⟨fU,_⟩:=qG J;have fJ:w.heap.size<w1.heap.size:=by have:=J.size;simp at this;omega)|(go_at_call 151;(with_reducible refine(ac _).mono ?_);rintro e w2⟨gh,rfl,hv,ag⟩;obtain⟨fU,_⟩:=qG ag;have fJ:w.heap.size<w2.heap.size:=by have:=ag.size;omega));have Y:w w2:=gZ (iP J) ag;have ap:aq2 w2 A c body:=hB.below Y
  .refine(Qq a _).mono ?_;rintro e w3⟨_,rfl,⟨ga,rfl,av⟩,Q⟩;have aa:=hv.below Q;go_wp2_with(go_at_call 105;refine(BZ [ar,be 4 a.toNat] w3 2 #[.slice (some ⟨gh,0,none⟩) 4 4,.slice (some ⟨ga,0,none⟩) 4 4] _ rfl (fK.new _ _ _) ⟨rM (aa.alloc _) U,rM (av.alloc _) (iC _ _),trivial⟩ (by simp) (by simp) (by simp[Lib.lens,iC,U])).mono ?_;rintro e w4⟨v,rfl,ax,aq⟩);go_ret;refine⟨_,rfl,?_,gZ Y (gZ Q (iP aq))⟩;have:=ax.mono (base':=w.heap.size) (by have:=Y.size;have:=Q.size;simp;omega);rw[<-ae.out]at this;simpa[nP,dw M.out] using this
  all_goals(
   apply iM;(case lX=>intro u;simp only[bV,aq9,aP,ay,aA,aB,aT,aJ];rfl);(case hm=>kernel_rfl);(case hB=>kernel_rfl);case hap=>kernel_rfl
   repeat(first
      |(apply Lex.is;·(intro u w' K j;simp[fH,aC,Is]at j;refine fF (by first |rfl |simp[aF,ψ,j]) ?_;intro V H;obtain⟨az,_⟩:=qG K;go_wp2_with fail;(try simp only[j]at H);refine H _ _ ?_ rfl;exact aH _ _))
      |(apply Lex.word (Bg _) (λ_ _ _ h J=>h.grow J);·(intro u w' K j;simp[fH,aC,Is]at j;refine fF (by first |rfl |simp[aF,ψ,j]) ?_;intro V H;go_wp2_with(go_at_call 151;(with_reducible refine(Qq _ _).mono ?_);rintro e w3⟨v3,rfl,aa,Q⟩);(try simp only[j]at H);exact H _ _ Q aa))
      |(apply Lex.word (Qu body.length) (λ_ _ _ h J=>h.grow J);·(intro u w' K j;simp[fH,aC,Is]at j;refine fF (by first |rfl |simp[aF,ψ,j]) ?_;intro V H;obtain⟨ad,O,au⟩:=j;go_wp2_with fail;(try simp only[O]at H);exact H _ _ gY ⟨ad,rfl,aat au (by have:=M.out;omega)⟩))
      |(apply Lex.word (zi _) (λ_ _ _ h J=> h.grow J); · (intro u w' K j; simp [fH, aC, Is]at j; refine fF (by first | rfl | simp [aF, ψ, j]) ?_; intro V H; have ak := rM (hv.below K) U; have am : jG body (.slice A body.length c) w' := ⟨_, _, rfl, ap.below K⟩; have ha := λo=> (aH _ w').alloc ig o; first
       |(obtain⟨N,⟨ad,O,h1⟩,Z⟩:=j;go_wp2_with fail;(try simp only[N,O,Z]at H);exact H _ _ (ha _) (Xx ak (rM h1 (iC _ _)) am))
       |(obtain⟨N,⟨ad,O,h1⟩,⟨an,Z,h2⟩⟩:=j;go_wp2_with fail;(try simp only[N,O,Z]at H);exact H _ _ (ha _) (Xx ak (rM h1 (iC _ _)) (rM h2 (iC _ _))))
       |(obtain⟨N,⟨ad,O,h1⟩,⟨an,Z,h2⟩,d3⟩:=j;go_wp2_with fail;(try simp only[N,O,Z,d3]at H);exact H _ _ (ha _) (aj9 ak (rM h1 (iC _ _)) ⟨_,2,rfl,h2⟩ am))))
      |(apply Lex.word (fV w2 _) (λ_ _ _ h J=>h.grow J);·(intro u w' K j;simp[fH,aC]at j;refine fF (by first |rfl |simp[aF,ψ]) ?_;intro V H;obtain⟨⟨gp,vs,N,ZW,hP⟩,_⟩:=j;go_wp2_with(go_at_call 105;refine(BZ _ gp _ vs _ rfl ZW hP (by simp) (by simp) (by have:=M.out;simp[Lib.lens,iC,U] <;> omega)).mono ?_;rintro e w3⟨v3,rfl,aa,Q⟩);(try simp only[N]at H);exact H _ _ Q (aa.mono K.size)))
      |(apply Lex.word (fV w2 _) (λ_ _ _ h J=>h.grow J);·(intro u w' K j;simp[fH,aC]at j;refine fF (by first |rfl |simp[aF,ψ]) ?_;intro V H;go_wp2_with fail;first|exact H _ _ gY j|exact H _ _ gY j.1)))
   apply Lex.nil;intro u w' K j;simp only[gQ]at j;have al:=Y.size;(have ai:=by first|exact(j 14 _ rfl).mono al|exact(j 9 _ rfl).mono al|exact(j 8 _ rfl).mono al);clear j;go_wp2_with fail;go_ret;refine⟨_,rfl,?_,gZ Y K⟩;rw[<-ae.out]at ai;first|simpa[nP] using ai|simpa[nP,dw M.out] using ai)
end
set_option maxRecDepth 16000
def YZ(kind dir fG:Int)(a b:BitVec 32)(body:List UInt8)(je:BitVec 64)(A:Option δ)(c:Nat)(w:ω)(hB:aq2 w A c body)(j:body.length<=2000):Γ aj 150 #[.agg #[kind,dir,fG,q32 a,q32 b,.slice A body.length c,q64 je]] w λe w'=> ∃v,e=.returned v/\fV w (arx ⟨kind,dir,fG,a,b,body,je⟩) v w'/\w w':=Xy ⟨kind,dir,fG,a,b,body,je⟩ A body.length c w rfl hB j
def agG (x:BitVec 64):BitVec 32:=(x >>> 32).setWidth 32
def agH (x:BitVec 64):BitVec 32:=x.setWidth 32
def adR(x:BitVec 64):(x.setWidth 32).toNat=x.toNat % 4294967296:=by simp
def be8(x:BitVec 64):be 4 (agG x).toNat++be 4 (agH x).toNat=be 8 x.toNat:=by
 unfold agG agH;have h:=x.isLt;rw[show(8:Nat)=4+4 from rfl,Xu,<-adI 4 x.toNat,adR,adR,BitVec.toNat_ushiftRight,Nat.shiftRight_eq_div_pow];have e:x.toNat / 2 ^ 32 % 4294967296=x.toNat / 256 ^ 4:=by simp;omega
 rw[e]
def GV(p:P7):(nP p).length<=14+p.body.length:=by
 unfold nP;simp only[bC,iC];have h1:(if p.kind<=3 then be 4 p.a.toNat else []).length<=4:=by split <;> simp[iC]
 have j:(if 2<=p.kind then be 4 p.b.toNat else []).length<=4:=by split <;> simp[iC]
 have H:(if p.kind=5 then be 2 p.body.length else []).length<=2:=by split <;> simp[iC]
 omega
def fV.nil:fV base [] (.slice none 0 0) w:=⟨none,0,rfl,aq2.nil _,λh=>absurd h (by simp)⟩
theorem akb(kind dir fG:Int)(a b:BitVec 32)(body:List UInt8)(je:BitVec 64)(A:Option δ)(c:Nat)(w:ω)(J:body.length<=2000)(hm:may ⟨kind,dir,fG,a,b,body,je⟩=false):Γ aj 103 #[.agg #[kind,dir,fG,q32 a,q32 b,.slice A body.length c,q64 je]] w λe w'=>e=.returned (.tuple #[nS,(1:Int)])/\w w':=by have j:=λW=>Qs kind dir fG a b body je A c W (by omega);rw[hm]at j;go_enter func103,ntmps103;go_wp2_with(first|((with_reducible refine(j _).mono ?_);rintro e K⟨rfl,H⟩));go_ret2;exact⟨rfl,iP H⟩
theorem amL(dir fG:Int)(a b:BitVec 32)(body:List UInt8)(je:BitVec 64)(A:Option δ)(c:Nat)(w:ω)(hB:aq2 w A c body)(M:body.length<=2000)(hm:may ⟨1,dir,fG,a,b,body,je⟩=true):Γ aj 103 #[.agg #[(1:Int),dir,fG,q32 a,q32 b,.slice A body.length c,q64 je]] w λe w'=> ∃v,e=.returned (.tuple #[v,zI])/\fV w (enc ⟨1,dir,fG,a,b,body,je⟩) v w'/\w w':=by
 have e:enc ⟨1,dir,fG,a,b,body,je⟩=arx ⟨1,dir,fG,a,b,body,je⟩:=by simp[enc,arx,hm]
 rw[e];have J:=λW=>Qs 1 dir fG a b body je A c W (by omega);have N:=λW (h:aq2 W A c body)=>YZ 1 dir fG a b body je A c W h M;rw[hm]at J;go_enter func103,ntmps103;go_wp2_with(first|((with_reducible refine(J _).mono ?_);rintro e H⟨rfl,j⟩;obtain⟨Q,_⟩:=qG j;have U:w.heap.size<H.heap.size:=by have:=j.size;simp at this;omega)|((with_reducible refine(N _ (hB.below (iP j))).mono ?_);rintro e H⟨v,rfl,O,K⟩));go_ret2;exact⟨_,rfl,O.mono (by omega),gZ (iP j) K⟩
theorem amM(kind dir fG:Int)(a b:BitVec 32)(body:List UInt8)(je:BitVec 64)(A:Option δ)(c:Nat)(w:ω)(hB:aq2 w A c body)(Z:body.length<=2000)(hm:may ⟨kind,dir,fG,a,b,body,je⟩=true)(K:kind≠1):Γ aj 103 #[.agg #[.int .i64 kind,.int .i64 dir,.int .i64 fG,q32 a,q32 b,.slice A body.length c,q64 je]] w λe w'=> ∃v,e=.returned (.tuple #[v,.int .i64 0])/\fV w (enc ⟨kind,dir,fG,a,b,body,je⟩) v w'/\w w':=by
 have e:enc ⟨kind,dir,fG,a,b,body,je⟩= [arx ⟨kind,dir,fG,a,b,body,je⟩,be 4 (agG je).toNat,be 4 (agH je).toNat].flatten:=by
  have h1:1<kind:=by have:=FH.1 hm;unfold KW at this;simp only at this;omega
  simp only[List.flatten_cons,List.flatten_nil,List.append_nil];rw[be8];simp[enc,arx,hm,h1]
 rw[e];clear e;have aa:=λW=>Qs kind dir fG a b body je A c W (by omega);have ak:=λW (h:aq2 W A c body)=>YZ kind dir fG a b body je A c W h Z;have Y:(arx ⟨kind,dir,fG,a,b,body,je⟩).length<=2014:=by have:=GV ⟨kind,dir,fG,a,b,body,je⟩;simp[arx,hm];simp at this;omega
 rw[hm]at aa;clear hm;generalize af:arx ⟨kind,dir,fG,a,b,body,je⟩=T at*;clear af;replace Z:=ah Z;replace Y:=ah Y;go_enter func103,ntmps103;go_wp2_with(first|(go_at_call 149;(with_reducible refine(aa _).mono ?_);rintro e Q⟨rfl,J⟩;obtain⟨hc,_⟩:=qG J;have hz:w.heap.size<Q.heap.size:=by have:=J.size;simp at this;omega));have U:=iP J;have ae:aq2 Q A c body:=hB.below U;have ag:(kind==1)=false:=by simpa using K
 simp only[ag];have an:=Y.out;apply iM;case lX=>intro u;simp only[bV,aq9,aP,ay,aA,aB,aT,aJ];rfl
 case hm=>kernel_rfl
 case hB=>kernel_rfl
 case hap=>kernel_rfl
 repeat(first|(apply Lex.is;·(intro u w' K j;simp[fH,aC,Is]at j;refine fF ?_ ?_;(.first|rfl|(simp[aF,ψ,j];done));intro M H;obtain⟨ap,_⟩:=qG K;go_wp2_with fail;(try simp only[j]at H);refine H _ _ ?_ rfl;exact aH _ _))|(apply Lex.word (fV Q T) (λ_ _ _ h J=>h.grow J);·(intro u w' K j;simp[fH,aC,Is]at j;refine fF ?_ ?_;(.first|rfl|(simp[aF,ψ,j];done));intro M H;go_wp2_with(go_at_call 150;(with_reducible refine(ak _ (ae.below K)).mono ?_);rintro e w3⟨v3,rfl,O,N⟩);(try simp only[j]at H);exact H _ _ N (O.mono K.size)))|(apply Lex.word (Bg _) (λ_ _ _ h J=>h.grow J);·(intro u w' K j;simp[fH,aC,Is]at j;refine fF ?_ ?_;(.first|rfl|(simp[aF,ψ,j];done));intro M H;go_wp2_with(go_at_call 151;(with_reducible refine(Qq _ _).mono ?_);rintro e w3⟨v3,rfl,O,N⟩);(try simp only[j]at H);exact H _ _ N O))|(apply Lex.word (zi _) (λ_ _ _ h J=>h.grow J);·(intro u w' K j;simp[fH,aC,Is]at j;refine fF ?_ ?_;(.first|rfl|(simp[aF,ψ,j];done));intro M H;obtain⟨⟨A0,c0,V,ad,_⟩,⟨al,d1,h1⟩,⟨am,d2,h2⟩⟩:=j;go_wp2_with fail;simp only[V,d1,d2]at H;exact H _ _ jm (Xx ⟨_,_,rfl,ad⟩ (rM h1 (iC _ _)) (rM h2 (iC _ _)))))|(apply Lex.word (fV Q _) (λ_ _ _ h J=>h.grow J);·(intro u w' K j;simp[fH,aC]at j;refine fF ?_ ?_;(.first|rfl|(simp[aF,ψ];done));intro M H;obtain⟨⟨gp,vs,V,ZW,hP⟩,_⟩:=j;go_wp2_with(go_at_call 105;refine(BZ _ gp _ vs _ rfl ZW hP (by simp) (by simp) (by simp[Lib.lens,iC] <;> omega)).mono ?_;rintro e w3⟨v3,rfl,O,N⟩);(try simp only[V]at H);exact H _ _ N (O.mono K.size)))|(apply Lex.word (fV Q _) (λ_ _ _ h J=>h.grow J);·(intro u w' K j;simp[fH,aC]at j;refine fF ?_ ?_;(.first|rfl|(simp[aF,ψ];done));intro M H;go_wp2_with fail;first|exact H _ _ gY j|exact H _ _ gY j.1)))
 apply Lex.nil;intro u w' K j;simp only[gQ]at j;have ai:=j 13 _ rfl;have ac:=j 14 _ rfl;clear j;simp only[Is]at ac;rw[ac];go_wp2_with fail;go_ret2;exact⟨_,rfl,by simpa[agG,agH] using ai.mono (base':=w.heap.size) (by have:=U.size;omega),gZ U K⟩
def adS(p:P7)(A:Option δ)(n c:Nat)(w:ω)(hn:n=p.body.length)(hB:aq2 w A c p.body)(j:p.body.length<=2000):Γ aj 103 #[.agg #[p.kind,p.dir,p.fG,q32 p.a,q32 p.b,.slice A n c,q64 p.je]] w λe w'=> ∃v,e=.returned (.tuple #[v,(if may p then 0 else 1:Int)])/\fV w (enc p) v w'/\w w':=by
 subst hn;obtain⟨kind,dir,fG,a,b,body,je⟩:=p;simp only at j hB |-;cases hm:may ⟨kind,dir,fG,a,b,body,je⟩ with
 |false=>refine(akb kind dir fG a b body je A c w j hm).mono ?_;rintro e w'⟨rfl,J⟩;exact⟨_,rfl,by simp only[enc,hm];exact fV.nil,J⟩
 |true=>
  by_cases H:kind=1;.subst H;exact amL dir fG a b body je A c w hB j hm
  .exact amM kind dir fG a b body je A c w hB j hm H
def D8(A:Option δ)(n c:Nat)(l:List UInt8)(w:ω)(g:Nat)(hn:n=l.length)(j:g=w.heap.size)(hB:aq2 w A c l)(H:l.length<=65536):Γ aj 105 #[.slice g 1 1] (w.alloc (.cells #[.slice A n c] 45)) λe w'=> ∃v,e=.returned v/\fV (w.alloc (.cells #[.slice A n c] 45)).heap.size l v w'/\Below (w.alloc (.cells #[.slice A n c] 45)).heap.size (w.alloc (.cells #[.slice A n c] 45)) w':=by subst hn;have:=BZ [l] g 1 #[.slice A l.length c] (w.alloc (.cells #[.slice A l.length c] 45)) rfl (fK.newAt _ _ _ _ j) ⟨⟨A,c,rfl,hB.alloc _⟩,trivial⟩ (by simp) (by simp) (by simp[Lib.lens];omega);simpa only[List.flatten_cons,List.flatten_nil,List.append_nil] using this
set_option maxRecDepth 8000
def Ou (base:Nat) (p:P7):Θ->ω->Prop:=fun v w=> ∃bv,v=.agg #[.int .i64 p.kind,.int .i64 p.dir,.int .i64 p.fG,q32 p.a,q32 p.b,bv,q64 p.je]/\fV base p.body bv w
def Ov (base:Nat):Θ->ω->Prop:=fun v w=> ∃g,v=.pointer (some ⟨g,0,none⟩)/\base<=g/\fK w g 136 gi
theorem Ov.grow(h:Ov base v w)(j:w w'):Ov base v w':=by obtain⟨g,e,H,hB⟩:=h;exact⟨g,e,H,hB.below j hB.lt⟩
theorem fV.kept(h:fV base bs v w)(V:w.heap.size<=w'.heap.size)(N: ∀k,base<=k->k<w.heap.size->w'.heap[k]? =w.heap[k]?):fV base bs v w':=by
 obtain⟨A,c,e,hB,M⟩:=h;refine⟨A,c,e,⟨λh0=>?_,hB.cap,hB.max⟩,λh0=>?_⟩
 .have h1:0<bs.length:=by rwa [aq8]at h0
  obtain⟨g,rfl,j,H,K⟩:=M h1;obtain⟨b,off,J,U,hc⟩:=hB.row h0;simp only[aO,cZ,and_true]at J;obtain⟨rfl,rfl⟩:=J;exact⟨g,0,rfl,by omega,λO u Q=>(World.cell?_of_block (a:=⟨g,0+O,none⟩) (N g j H)).trans (hc O u Q)⟩
 .obtain⟨g,h1,j,H,K⟩:=M h0;exact⟨g,h1,j,by omega,λi hi=>(World.frozen?_of_block (a:=⟨g,i,none⟩) (N g j H)).trans (K i hi)⟩
theorem fV.setCell(h:fV base bs v w){p:δ}(H:p.block<base)(u:Θ):fV base bs v (w.setCell p u):=h.kept (by simp) λk j _=>aN w p u k (by omega)
structure wQ (w W:ω) (g:Nat) (cells:Array Θ):Prop where
  Ep:fK W g 136 cells
  res:fK W w 136 gi
  below:w W
  gt:w.heap.size<g
theorem wQ.set(h:wQ w W g cells)(i:Nat)(u:Θ):wQ w (W.setCell ⟨g,i,none⟩ u) g (cells.setIfInBounds i u):=⟨h.Ep.iV i u,h.res.far (p:=⟨g,i,none⟩) (by have:=h.gt;grind) u,h.below.setCell (p:=⟨g,i,none⟩) (by have:=h.gt;grind) u,h.gt⟩
def wQ.grow(h:wQ w W g cells)(j:W W'):wQ w W' g cells:=⟨h.Ep.below j h.Ep.lt,h.res.below j h.res.lt,h.below.trans (j.mono h.below.size),h.gt⟩
def wQ.alloc(h:wQ w W g cells)(o:Obj):wQ w (W.alloc o) g cells:=h.grow (gY.alloc ig o)
def wQ.bytes(h:wQ w W g cells)(hB:aq2 w A c bs):aq2 W A c bs:=hB.below h.below
theorem akc(l:List UInt8):num l<256 ^ l.length:=by induction l with|nil=>simp[num]|cons b l j=>rw[Us,bK,Nat.pow_succ];have:=b.toNat_lt;have h1:b.toNat*256 ^ l.length<=255*256 ^ l.length:=Nat.mul_le_mul_right _ (by omega);omega
theorem aoQ(l:List UInt8)(h:l.length=3):(bT 64 (num l)).toNat=num l/\num l<16777216:=by have:=akc l;grind
def adT(n:Nat):(bT 64 n).setWidth 32=bT 32 n:=by simp
theorem adU(bs:List UInt8)(h8:8<=bs.length)(b0:UInt8)(Y:b0=nth bs 0)(T X:BitVec 64)(U:T.toNat=num ((bs.drop 1).take 3))(V:X=bT 64 (num ((bs.drop 4).take 4)))(j H J:Int)(hk:(b0.toNat:Int) / 2=j)(Z:(b0.toNat:Int) % 2=H)(ht:(T.toNat:Int)=J):Bf bs=if j=1 then some ⟨1,H,J,X.setWidth 32,0,[],0⟩ else if(bs.drop 8).length<8 then none else if j=2\/j=3 then some ⟨j,H,J,X.setWidth 32,bT 32 (num (((bs.drop 8).take ((bs.drop 8).length-8)).take (min 4 ((bs.drop 8).take ((bs.drop 8).length-8)).length))),[],bT 64 (num ((bs.drop 8).drop ((bs.drop 8).length-8)))⟩ else if j=5 then some ⟨5,H,J,0,X.setWidth 32,((bs.drop 8).take ((bs.drop 8).length-8)).drop (min 2 ((bs.drop 8).take ((bs.drop 8).length-8)).length),bT 64 (num ((bs.drop 8).drop ((bs.drop 8).length-8)))⟩ else if j=6 then some ⟨6,H,J,0,X.setWidth 32,(bs.drop 8).take ((bs.drop 8).length-8),bT 64 (num ((bs.drop 8).drop ((bs.drop 8).length-8)))⟩ else some ⟨j,H,J,0,0,[],bT 64 (num ((bs.drop 8).drop ((bs.drop 8).length-8)))⟩:=by
 unfold Bf;rw[Ξ (by omega)];unfold KX;subst Y V Z ht hk;rw[U,adT];generalize nth bs 0=x;have K:((x.toNat:Int) / 2=1)<->(x.toNat / 2=1):=by omega
 have M:((x.toNat:Int) / 2=2)<->(x.toNat / 2=2):=by omega
 have N:((x.toNat:Int) / 2=3)<->(x.toNat / 2=3):=by omega
 have O:((x.toNat:Int) / 2=5)<->(x.toNat / 2=5):=by omega
 have Q:((x.toNat:Int) / 2=6)<->(x.toNat / 2=6):=by omega
 simp only[K,M,N,O,Q,Int.natCast_ediv,Int.natCast_emod];rfl
theorem aau(A:Option δ)(c:Nat)(bs:List UInt8)(w:ω)(hB:aq2 w A c bs)(J:bs.length<8):Γ aj 59 #[.slice A bs.length c] w λe w'=>e=.returned (.tuple #[.agg gi,(8:Int)])/\w w':=by
 have H:(bs.length:Int)<8:=by omega
 go_enter func59,ntmps59;go_wp2_with fail;have j:=fK.new w 136 gi;have hc:=j.cell;simp only[List.getElem?_toArray,eP]at hc;refine β (v:=.tuple #[.agg gi,(8:Int)]) (by simp[results,results59,go_sem,hc]) rfl ⟨rfl,gY.alloc ig _⟩
set_option maxRecDepth 8000
def jA (k:K4) (p:P7):P7:=if may p=true/\p.kind≠1 then⟨p.kind,p.dir,p.fG,p.a,p.b,p.body,Mac k (arx p)⟩ else p
structure rO (w W:ω) (k:K4) (cells:Array Θ):Prop where
  key:fK W w 32 #[q32 k.k0,q32 k.k1,q32 k.k2,q32 k.k3]
  Ep:fK W (w.heap.size+1) 136 cells
  res:fK W (w.heap.size+1+1) 136 gi
  below:w W
def rO.set(h:rO w W k cells)(i:Nat)(u:Θ):rO w (W.setCell ⟨w.heap.size+1,i,none⟩ u) k (cells.setIfInBounds i u):=⟨h.key.far (p:=⟨w.heap.size+1,i,none⟩) (by simp) u,h.Ep.iV i u,h.res.far (p:=⟨w.heap.size+1,i,none⟩) (by simp) u,h.below.setCell (p:=⟨w.heap.size+1,i,none⟩) (by simp) u⟩
def rO.grow(h:rO w W k cells)(j:W W'):rO w W' k cells:=⟨h.key.below j h.key.lt,h.Ep.below j h.Ep.lt,h.res.below j h.res.lt,h.below.trans (j.mono h.below.size)⟩
def rO.alloc(h:rO w W k cells)(o:Obj):rO w (W.alloc o) k cells:=h.grow (gY.alloc ig o)
def rO.bytes(h:rO w W k cells)(hB:aq2 w A c bs):aq2 W A c bs:=hB.below h.below
theorem Qv(k:K4)(kind dir fG:Int)(a b:BitVec 32)(body:List UInt8)(je:BitVec 64)(A:Option δ)(n c:Nat)(w:ω)(hn:body.length=n)(hB:aq2 w A c body)(aD:body.length<=2000):Γ aj 110 #[.agg #[q32 k.k0,q32 k.k1,q32 k.k2,q32 k.k3],.agg #[kind,dir,fG,q32 a,q32 b,.slice A n c,q64 je]] w λe w'=> ∃v,e=.returned v/\Ou w (jA k ⟨kind,dir,fG,a,b,body,je⟩) v w'/\w w':=by
 obtain⟨q,hq⟩:=fD (jA k ⟨kind,dir,fG,a,b,body,je⟩);rw[<-hq];have ap: ∀W Ab cb,Γ aj 149 #[.agg #[kind,dir,fG,q32 a,q32 b,.slice Ab n cb,q64 je]] W λe w'=>e=.returned (.bool (may ⟨kind,dir,fG,a,b,body,je⟩))/\W w':=λW Ab cb=>Uu ⟨kind,dir,fG,a,b,body,je⟩ Ab n cb W hn.symm (by show body.length<=_;omega);have aR: ∀W Ab cb,aq2 W Ab cb body->Γ aj 150 #[.agg #[kind,dir,fG,q32 a,q32 b,.slice Ab n cb,q64 je]] W λe w'=> ∃v,e=.returned v/\fV W (arx ⟨kind,dir,fG,a,b,body,je⟩) v w'/\W w':=λW Ab cb h=>Xy ⟨kind,dir,fG,a,b,body,je⟩ Ab n cb W hn.symm h aD;have a1:=GV ⟨kind,dir,fG,a,b,body,je⟩;have au:(arx ⟨kind,dir,fG,a,b,body,je⟩).length<=65536:=by
  unfold arx;split;.simp at a1;omega
  .simp
 have ae: ¬(may ⟨kind,dir,fG,a,b,body,je⟩=true/\kind≠1)->q=⟨kind,dir,fG,a,b,body,je⟩:=λh=>by rw[hq];unfold jA;rw[Ξ h]
 have af:(may ⟨kind,dir,fG,a,b,body,je⟩=true/\kind≠1)->q=⟨kind,dir,fG,a,b,body,Mac k (arx ⟨kind,dir,fG,a,b,body,je⟩)⟩:=λh=>by rw[hq];unfold jA;rw[Υ h]
 generalize bh:may ⟨kind,dir,fG,a,b,body,je⟩=mb at*;generalize bi:arx ⟨kind,dir,fG,a,b,body,je⟩=M at*;have aE:body.length<=65536:=by omega
 go_enter func110,ntmps110;go_wp2_with fail;obtain⟨w1,ak⟩:=fD (((w.alloc (.cells #[q32 k.k0,q32 k.k1,q32 k.k2,q32 k.k3] 32)).alloc (.cells #[kind,dir,fG,q32 a,q32 b,.slice A n c,q64 je] 136)).alloc (.cells gi 136));rw[<-ak];have aq:w1.heap.size=w.heap.size+1+1+1:=by rw[ak];simp
 have S1:rO w w1 k #[kind,dir,fG,q32 a,q32 b,.slice A n c,q64 je]:=by rw[ak];exact⟨((fK.new _ _ _).alloc _).alloc _,(fK.newAt _ _ _ _ (by simp)).alloc _,fK.newAt _ _ _ _ (by simp),(jm.alloc (by simp) _).alloc (by simp;omega) _⟩
 (with_reducible refine(D8 A n c body w1 _ hn.symm aq.symm (S1.bytes hB) aE).mono ?_);rintro e w4⟨v4,rfl,U,am⟩;have S4:=(S1.alloc _).grow am;replace U:=U.mono (base':=w.heap.size+1+1+1) (by simp;omega);obtain⟨Ab,cb,rfl,aa,_⟩:=id U;rw[hn]at U;have ai:=U.setCell (p:=⟨w.heap.size+1,5,none⟩) (by show w.heap.size+1<_;omega) (.slice Ab n cb);have S5:rO w _ k #[kind,dir,fG,q32 a,q32 b,.slice Ab n cb,q64 je]:=S4.set 5 (.slice Ab n cb);clear aa am S1 aq;have bb:=S4.Ep.cell;have bd:=S4.Ep.frozen;obtain⟨a6,ba,ev,aa,_⟩:=id ai;simp only[dV]at ev;obtain⟨rfl,hx,rfl⟩:=ev;clear hx;generalize bj:w4.setCell ⟨w.heap.size+1,5,none⟩ (.slice Ab n cb)=w5 at*;by_cases O:mb=true/\kind≠1
 .obtain⟨rfl,Q⟩:=O;have ag:=ah (af ⟨rfl,Q⟩);clear ae af;go_wp2_with(first|((with_reducible refine(ap _ Ab cb).mono ?_);rintro e w6⟨rfl,N⟩;have H:=S5.grow N;have V:=ai.grow N;have Xz:=aa.below N;have fJ:=H.Ep.cell;have ac:=H.below;have Uf:=H.res)|(with_reducible refine gy rfl 136 (.tmp 3) rfl (w.heap.size+1) rfl 136 #[kind,dir,fG,q32 a,q32 b,.slice Ab n cb,q64 je] _ S5.Ep bF rfl (by kernel_rfl) ?_)|(with_reducible refine gy rfl 136 (.tmp 3) rfl (w.heap.size+1) rfl 136 #[kind,dir,fG,q32 a,q32 b,.slice Ab n cb,q64 je] _ H.Ep bF rfl (by kernel_rfl) ?_)|(with_reducible refine jZ rfl 136 (.tmp 4) (.tmp 22) rfl (w.heap.size+1+1) #[kind,dir,fG,q32 a,q32 b,.slice Ab n cb,q64 je] rfl rfl 136 _ Uf (by kernel_rfl) rfl (by simp[aK,q32,q64]) w w ac (by omega) ?_;intro w7 Qg Y ar Qw));have al:(kind != 1)=true:=by simpa using Q
  simp only[al];have a7:w.heap.size+1<w6.heap.size:=H.Ep.lt;have a8:=H.key.cell;have a9:w.heap.size<w6.heap.size:=H.key.lt;apply mZ;case lX=>intro u;simp only[bV,aq9,aP,ay,aA,aB,aT,aJ];rfl
  case hm=>kernel_rfl
  case hB=>kernel_rfl
  case hA=>kernel_rfl
  case hap=>kernel_rfl
  iterate 2(apply lI.is;·(intro u w' J j;simp[fH,aC,Is]at j;refine fF (by first |rfl) ?_;intro Z K;obtain⟨an,_⟩:=qG J;go_wp2_with(fail);refine K _ _ ?_ rfl;first|exact aH _ _))
  refine lI.word (jG M) (λ_ _ _ h hb=>h.grow hb) ?_ ?_;·(intro u w' J j;simp[fH,aC,Is]at j;refine fF (by first |rfl) ?_;intro Z K;obtain⟨an,_⟩:=qG J;skip;go_wp2_with((with_reducible refine(aR _ Ab cb (Xz.below J)).mono ?_);rintro e w3⟨v3,rfl,a4,ad⟩);(try simp only[j]at K);exact K _ _ ad a4.is)
  refine lI.is (c:=q64 (Mac k M)) ?_ ?_;·(intro u w' J j;simp[fH,aC,Is]at j;obtain⟨ax,At,ct,az,aw⟩:=j;refine fF (by first |rfl) ?_;intro Z K;go_wp2_with(go_loud(with_reducible refine(aib k At ct M _ aw au).mono ?_);rintro e w3⟨rfl,ad⟩);(try simp only[ax,az]at K);exact K _ _ ad rfl)
  apply lI.is;·(intro u w' J j;simp[fH,aC,Is]at j;refine fF (by first |rfl) ?_;intro Z K;obtain⟨an,_⟩:=qG J;go_wp2_with(fail);(try simp only[j]at K);refine K _ _ ?_ rfl;first|exact aH _ _)
  refine lI.last ?_;intro u w8 J j;simp only[gQ]at j;have aL:=j 3 _ rfl;have aM:=j 4 _ rfl;simp only[Is]at aL aM;clear j;refine⟨rfl,?_⟩;intro Z K;have S8:=H.grow J;have bc:=S8.Ep.cell;have bf:=S8.Ep.frozen;have a5:=(V.grow J).setCell (p:=⟨w.heap.size+1,6,none⟩) (by show w.heap.size+1<_;omega) (q64 (Mac k M));have S9:rO w _ k #[kind,dir,fG,q32 a,q32 b,.slice Ab n cb,q64 (Mac k M)]:=S8.set 6 (q64 (Mac k M));have av:=S9.below;have TN:=S9.res;have V:=a5;go_wp2_with(first|(with_reducible refine gy rfl 136 (.tmp 3) rfl (w.heap.size+1) rfl 136 #[kind,dir,fG,q32 a,q32 b,.slice Ab n cb,q64 (Mac k M)] _ S9.Ep bF rfl (by kernel_rfl) ?_)|(with_reducible refine jZ rfl 136 (.tmp 4) (.tmp 22) rfl (w.heap.size+1+1) #[kind,dir,fG,q32 a,q32 b,.slice Ab n cb,q64 (Mac k M)] rfl rfl 136 _ TN (by kernel_rfl) rfl (by simp[aK,q32,q64]) w w av (by omega) ?_;intro w7 Qg Y ar Qw));have Oe:=Qg.cell;refine β (v:=.agg #[kind,dir,fG,q32 a,q32 b,.slice Ab n cb,(q64 (Mac k M))]) (by simp[results,results110,go_sem,Oe]) rfl ⟨_,rfl,by rw[ag.out];exact⟨_,rfl,(V.kept (by omega) λk J _=>Qw k (by omega)).mono (by omega)⟩,Y⟩
 focus(have ag:=ah (ae O);clear ae af;rcases Bool.eq_false_or_eq_true mb with rfl |rfl;(focus((have Q:kind=1:=by by_cases h:kind=1;(.exact h);.exact absurd ⟨rfl,h⟩ O);clear O;(have al:(kind != 1)=false:=by simp[Q]);clear Q));rotate_left;focus(clear O))
 all_goals(go_wp2_with(first|((with_reducible refine(ap _ Ab cb).mono ?_);rintro e w6⟨rfl,N⟩;have H:=S5.grow N;have V:=ai.grow N;have Xz:=aa.below N;have fJ:=H.Ep.cell;have ac:=H.below;have Uf:=H.res)|(with_reducible refine gy rfl 136 (.tmp 3) rfl (w.heap.size+1) rfl 136 #[kind,dir,fG,q32 a,q32 b,.slice Ab n cb,q64 je] _ S5.Ep bF rfl (by kernel_rfl) ?_)|(with_reducible refine gy rfl 136 (.tmp 3) rfl (w.heap.size+1) rfl 136 #[kind,dir,fG,q32 a,q32 b,.slice Ab n cb,q64 je] _ H.Ep bF rfl (by kernel_rfl) ?_)|(with_reducible refine jZ rfl 136 (.tmp 4) (.tmp 22) rfl (w.heap.size+1+1) #[kind,dir,fG,q32 a,q32 b,.slice Ab n cb,q64 je] rfl rfl 136 _ Uf (by kernel_rfl) rfl (by simp[aK,q32,q64]) w w ac (by omega) ?_;intro w7 Qg Y ar Qw));have Oe:=Qg.cell;refine β (v:=.agg #[kind,dir,fG,q32 a,q32 b,.slice Ab n cb,(q64 je)]) (by simp[results,results110,go_sem,Oe]) rfl ⟨_,rfl,by rw[ag.out];exact⟨_,rfl,(V.kept (by omega) λk J _=>Qw k (by omega)).mono (by omega)⟩,Y⟩)
set_option maxRecDepth 8000
structure gG where
  side:Int
  fG:Int
  base:K4
  state:Int
  a:BitVec 32
  b:BitVec 32
  key:K4
  half:Bool
  a2:BitVec 32
  b2:BitVec 32
def adV:K4:=⟨0,0,0,0⟩
def gG.none_:gG:=⟨0,0,adV,0,0,0,adV,false,0,0⟩
def gB (p:gG):Array Θ:= #[.int .i64 p.side,.int .i64 p.fG,q32 p.base.k0,q32 p.base.k1,q32 p.base.k2,q32 p.base.k3,.int .i64 p.state,q32 p.a,q32 p.b,q32 p.key.k0,q32 p.key.k1,q32 p.key.k2,q32 p.key.k3,.bool p.half,q32 p.a2,q32 p.b2]
def lS (p:gG):Bool:=decide (0<=p.fG)&&decide (p.fG<16777216)
def kR (p:gG):Int:=if p.side=0 then 0 else 1
def vZ (p:gG) (q:P7) (kind:Int):Bool:=may q&&decide (q.kind=kind)&&decide (q.dir≠kR p)&&decide (q.fG=p.fG)
set_option maxRecDepth 8000
def yc(p:gG)(w:ω):Γ aj 101 #[.agg (gB p)] w λe w'=>e=.returned (.bool (p.side==0))/\w w':=by unfold gB;go_enter func101,ntmps101;go_wp2_with fail;go_ret;exact⟨rfl,gY.alloc ig _⟩
theorem Qx(p:gG)(w:ω):Γ aj 102 #[.agg (gB p)] w λe w'=>e=.returned (.bool (lS p))/\w w':=by unfold gB lS;go_enter func102,ntmps102;go_wp2_with fail;all_goals go_ret;refine⟨ξ (λb=>Ending.returned (Value.bool b)) ?_,gY.alloc ig _⟩;first|rfl|(simp_all;done)|(simp_all;omega)|(simp_all;intro;omega)
theorem Qy(p:gG)(w:ω):Γ aj 124 #[.agg (gB p)] w λe w'=>e=.returned (.int .i64 (kR p))/\w w':=by
 have H:=λW=>yc p W;unfold kR;by_cases h:p.side=0;focus((have j:(p.side==0)=true:=by simp[h]);rw[j]at H;rw[Υ h])
 rotate_left;focus((have j:(p.side==0)=false:=by simp[h]);rw[j]at H;rw[Ξ h])
 all_goals(unfold gB at H |-;clear j h;go_enter func124,ntmps124;go_wp2_with(go_at_call 101;(with_reducible refine(H _).mono ?_);rintro e J⟨rfl,j⟩);go_ret;exact⟨rfl,iP j⟩)
set_option maxRecDepth 8000
def XA(p:P7)(h:p.body.length<=2000):(arx p).length<=65536:=by
 have j:=GV p;unfold arx;split;.omega
 .simp
theorem KZ(k:K4)(p:P7)(A:Option δ)(n c:Nat)(w:ω)(hn:n=p.body.length)(hB:aq2 w A c p.body)(aa:p.body.length<=2000):Γ aj 108 #[.agg #[q32 k.k0,q32 k.k1,q32 k.k2,q32 k.k3],.agg #[.int .i64 p.kind,.int .i64 p.dir,.int .i64 p.fG,q32 p.a,q32 p.b,.slice A n c,q64 p.je]] w λe w'=>e=.returned (.bool (nI k p))/\w w':=by
 have ac:=λW=>Uu p A n c W hn (by omega);have ad:=λW (h:aq2 W A c p.body)=>Xy p A n c W hn h aa;have ae:=XA p aa;replace hn:=hn.symm;rw[show nI k p=(may p&&(p.kind != 1)&&(Mac k (arx p)==p.je)) by rw[Bool.eq_iff_iff];simp[nI]];obtain⟨kind,dir,fG,a,b,body,je⟩:=p;generalize arx ⟨kind,dir,fG,a,b,body,je⟩=tx at*;generalize may ⟨kind,dir,fG,a,b,body,je⟩=b1 at*;simp only at ac ad |-;generalize am:(kind != 1)=b2;go_enter func108,ntmps108;go_wp2_with fail;obtain⟨N,M⟩:=fD ((w.alloc (.cells #[q32 k.k0,q32 k.k1,q32 k.k2,q32 k.k3] 32)).alloc (.cells #[.int .i64 kind,.int .i64 dir,.int .i64 fG,q32 a,q32 b,.slice A n c,q64 je] 136));rw[<-M];have Y:fK N w 32 #[q32 k.k0,q32 k.k1,q32 k.k2,q32 k.k3]:=by rw[M];exact(fK.new _ _ _).alloc _
 have U:fK N (w.heap.size+1) 136 #[.int .i64 kind,.int .i64 dir,.int .i64 fG,q32 a,q32 b,.slice A n c,q64 je]:=by rw[M];exact fK.newAt _ _ _ _ (by simp)
 have O:w N:=by rw[M];exact jm.alloc (by simp) _
 have an:w.heap.size<N.heap.size:=Y.lt;have ap:w.heap.size+1<N.heap.size:=U.lt;have af:=hB.below O;have ar:=Y.cell;have au:=U.cell;clear M;cases b1 <;> cases b2
 all_goals(
  apply iM;case lX=>intro u;simp only[bV,aq9,aP,ay,aA,aB,aT,aJ];rfl
  case hm=>kernel_rfl
  case hB=>kernel_rfl
  case hap=>kernel_rfl
  repeat(first|(apply Lex.is;·(intro u w' J j;simp[fH,aC,Is]at j;refine fF ?_ ?_;(.first|rfl|(simp[aF,ψ,j];done));intro Q H;obtain⟨aq,_⟩:=qG J;go_wp2_with(go_at_call 149;(with_reducible refine(ac _).mono ?_);rintro e w3⟨rfl,K⟩);(try simp only[j]at H);refine H _ _ ?_ rfl;first|exact aH _ _|exact K))|(refine Lex.is (c:=υ) ?_ ?_;·(intro u w' J j;simp[fH,aC,Is]at j;refine wG ?_ rfl;simp[aF,ψ,j];done))|(apply Lex.word (jG tx) (λ_ _ _ h hb=>h.grow hb);·(intro u w' J j;simp[fH,aC,Is]at j;refine fF ?_ ?_;(.first|rfl|(simp[aF,ψ,j];done));intro Q H;go_wp2_with(go_at_call 150;(with_reducible refine(ad _ (af.below J)).mono ?_);rintro e w3⟨v3,rfl,al,K⟩);(try simp only[j]at H);exact H _ _ K al.is))|(apply Lex.is;·(intro u w' J j;simp[fH,aC,Is]at j;obtain⟨ai,⟨At,ct,ak,ag⟩,V⟩:=j;refine fF ?_ ?_;(.first|rfl|(simp[aF,ψ,V];done));intro Q H;go_wp2_with(go_at_call 153;(with_reducible refine(aib k At ct tx _ ag ae).mono ?_);rintro e w3⟨rfl,K⟩);(try simp only[ai,ak,V]at H);exact H _ _ K rfl)))
  apply Lex.nil;intro u w' J j;simp only[gQ]at j;have Z:=j 16 _ rfl;simp only[Is]at Z;clear j;go_wp2_with fail;go_ret;exact⟨ξ Ending.returned Z,gZ O J⟩)
section
set_option maxRecDepth 8000
def wo (p:gG) (a b:BitVec 32):gG:=⟨p.side,p.fG,p.base,2,a,b,arp p.base a b,p.half,p.a2,p.b2⟩
def nJ (p:gG):gG:=⟨p.side,p.fG,p.base,0,0,0,adV,p.half,p.a2,p.b2⟩
def jw (p:gG) (q:P7) (kind:Int):Int:=if vZ p q kind=false then 1 else if p.state≠2 then 6 else if q.b≠p.b then 110 else if nI p.key q=false then 90 else 0
def iT (p:gG) (q:P7):Int:=if p.side≠0\/vZ p q 2=false then 1 else if p.state≠1 then 6 else if q.a≠p.a then 110 else if nI p.base q=false then 90 else 0
def wu (p:gG) (q:P7):gG:=if iT p q=0 then wo p p.a q.b else gG.none_
def rP (p:gG) (q:P7):P7:=if iT p q=0 then jA p.base ⟨3,0,p.fG,p.a,q.b,[],0⟩ else P7.none_
def MP (p:gG):Int:=if p.side=0/\lS p=true then 0 else 1
def adW (p:gG) (n:BitVec 32):gG:=if MP p=0 then⟨p.side,p.fG,p.base,1,n,0,adV,p.half,p.a2,p.b2⟩ else gG.none_
def aav (p:gG) (n:BitVec 32):P7:=if MP p=0 then⟨1,0,p.fG,n,0,[],0⟩ else P7.none_
def yg (p:gG) (body:List UInt8):P7:=⟨5,kR p,p.fG,0,p.b,body,0⟩
def wz (p:gG) (body:List UInt8):Int:=if p.state≠2 then 6 else if may (yg p body)=false then 1 else 0
def yh (p:gG) (body:List UInt8):P7:=if wz p body=0 then jA p.key (yg p body) else P7.none_
def ar5 (p:gG) (q:P7):List UInt8:=if jw p q 5=0 then q.body else []
def IV (p:gG):Int:=if p.state≠2 then 6 else if lS p=false then 1 else 0
def arV (p:gG):gG:=if IV p=0 then nJ p else gG.none_
def MQ (p:gG) (why:UInt8):P7:=if IV p=0 then jA p.key ⟨6,kR p,p.fG,0,p.b,[why],0⟩ else P7.none_
def GY (p:gG) (q:P7):gG:=if jw p q 6=0 then nJ p else gG.none_
def n21:(2:Int)≠1:=by decide
section
variable (base:K4) (fG:Int) (a b:BitVec 32) (h0:0<=fG) (h1:fG<16777216)
include h0 h1
end
structure aqw (p:gG) (fG:Int) (b:BitVec 32) (key:K4):Prop where
  state:p.state=2
  fG:p.fG=fG
  b:p.b=b
  key:p.key=key
end
set_option maxRecDepth 8000
theorem La(p:gG)(w:ω):Γ aj 116 #[.agg (gB p)] w λe w'=>e=.returned (.agg (gB (nJ p)))/\w w':=by show Γ _ _ _ _ λe w'=>e=.returned (.agg #[.int .i64 p.side,.int .i64 p.fG,q32 p.base.k0,q32 p.base.k1,q32 p.base.k2,q32 p.base.k3,.int .i64 0,.int .u32 0,.int .u32 0,.int .u32 0,.int .u32 0,.int .u32 0,.int .u32 0,.bool p.half,q32 p.a2,q32 p.b2])/\w w';unfold gB;go_enter func116,ntmps116;go_wp2_with fail;have j:=fK.newAt (w.alloc (.cells #[.int .i64 p.side,.int .i64 p.fG,q32 p.base.k0,q32 p.base.k1,q32 p.base.k2,q32 p.base.k3,.int .i64 0,.int .u32 0,.int .u32 0,.int .u32 0,.int .u32 0,.int .u32 0,.int .u32 0,.bool p.half,q32 p.a2,q32 p.b2] 34)) 34 #[.int .i64 p.side,.int .i64 p.fG,q32 p.base.k0,q32 p.base.k1,q32 p.base.k2,q32 p.base.k3,.int .i64 0,.int .u32 0,.int .u32 0,.int .u32 0,.int .u32 0,.int .u32 0,.int .u32 0,.bool p.half,q32 p.a2,q32 p.b2] (w.heap.size+1) (by simp);have hc:=j.cell;refine β (v:=.agg #[.int .i64 p.side,.int .i64 p.fG,q32 p.base.k0,q32 p.base.k1,q32 p.base.k2,q32 p.base.k3,.int .i64 0,.int .u32 0,.int .u32 0,.int .u32 0,.int .u32 0,.int .u32 0,.int .u32 0,.bool p.half,q32 p.a2,q32 p.b2]) (by simp[results,results116,go_sem,hc]) rfl ⟨rfl,jm.alloc (by simp) _⟩
set_option maxRecDepth 8000
theorem Lc(p:gG)(q:P7)(kind:Int)(A:Option δ)(n c:Nat)(w:ω)(hn:q.body.length=n)(ag:q.body.length<=2000):Γ aj 107 #[.agg (gB p),.agg #[.int .i64 q.kind,.int .i64 q.dir,.int .i64 q.fG,q32 q.a,q32 q.b,.slice A n c,q64 q.je],.int .i64 kind] w λe w'=>e=.returned (.bool (vZ p q kind))/\w w':=by
 have V:=λW=>Uu q A n c W hn.symm (by omega);have K:=λW=>Qy p W;rw[show vZ p q kind=(may q&&(q.kind==kind)&&(q.dir != kR p)&&(q.fG==p.fG)) by rw[Bool.eq_iff_iff];simp[vZ]];unfold gB at K |-;generalize may q=b1 at*;generalize kR p=Q at*;generalize h2:(q.kind==kind)=b2;generalize h3:(q.dir != Q)=b3;go_enter func107,ntmps107;go_wp2_with fail;obtain⟨H,j⟩:=fD ((w.alloc (.cells #[.int .i64 p.side,.int .i64 p.fG,q32 p.base.k0,q32 p.base.k1,q32 p.base.k2,q32 p.base.k3,.int .i64 p.state,q32 p.a,q32 p.b,q32 p.key.k0,q32 p.key.k1,q32 p.key.k2,q32 p.key.k3,.bool p.half,q32 p.a2,q32 p.b2] 34)).alloc (.cells #[.int .i64 q.kind,.int .i64 q.dir,.int .i64 q.fG,q32 q.a,q32 q.b,.slice A n c,q64 q.je] 136));rw[<-j];have M:fK H w 34 #[.int .i64 p.side,.int .i64 p.fG,q32 p.base.k0,q32 p.base.k1,q32 p.base.k2,q32 p.base.k3,.int .i64 p.state,q32 p.a,q32 p.b,q32 p.key.k0,q32 p.key.k1,q32 p.key.k2,q32 p.key.k3,.bool p.half,q32 p.a2,q32 p.b2]:=by rw[j];exact(fK.new _ _ _).alloc _
 have N:fK H (w.heap.size+1) 136 #[.int .i64 q.kind,.int .i64 q.dir,.int .i64 q.fG,q32 q.a,q32 q.b,.slice A n c,q64 q.je]:=by rw[j];exact fK.newAt _ _ _ _ (by simp)
 have O:w H:=by rw[j];exact jm.alloc (by simp) _
 have aa:w.heap.size<H.heap.size:=M.lt;have ac:w.heap.size+1<H.heap.size:=N.lt;have ae:=M.cell;have af:=N.cell;clear j;cases b1 <;> cases b2 <;> cases b3
 all_goals(
  refine ara (by kernel_rfl) ?_;repeat(first|(apply gX.want rfl;(.intro w' J Y Z hK;obtain⟨ad,_⟩:=qG J;go_wp2_with(first|((first|(go_at_call 149;(with_reducible refine(V _).mono ?_))|(go_at_call 124;(with_reducible refine(K _).mono ?_)));rintro e fU⟨rfl,U⟩));first|exact aH _ _|exact U);(.simp only[aP,ay,aA,aB];rfl))|(apply gX.skip rfl;.simp only[aP,ay,aA,aB];rfl))
  refine gX.nil ?_;intro w' J;go_wp2_with fail;go_ret;exact⟨rfl,gZ O J⟩)
set_option maxRecDepth 8000
@[go_sem] theorem akg (t:τ) (a:BitVec 64):γ .quo t (q64 a) (.int .u64 4294967296)=pure (q64 (a >>> 32)):=by
 have e:(IntKind.u64.wrap ((a.toNat:Int).tdiv 4294967296))=((a >>> 32).toNat:Int):=by have:=a.isLt;rw[IntKind.wrap_u64,BitVec.toNat_ushiftRight,Nat.shiftRight_eq_div_pow,Int.tdiv_eq_ediv_of_nonneg (by omega)];simp;omega
 show γ .quo t (.int .u64 _) (.int .u64 _)=_;rw[binOp_quo];unfold Op.intDiv;simp only[show ¬((4294967296:Int)=0) by decide,if_false];exact ξ (fun n=>(pure (Value.int .u64 n):Sem Θ)) e
def aoU (a:BitVec 64):BitVec 64:=a % 256#64
@[go_sem] theorem aip (t:τ) (a:BitVec 64):γ .quo t (q64 a) (.int .u64 256)=pure (q64 (a >>> 8)):=by
 have e:(IntKind.u64.wrap ((a.toNat:Int).tdiv 256))=((a >>> 8).toNat:Int):=by have:=a.isLt;rw[IntKind.wrap_u64,BitVec.toNat_ushiftRight,Nat.shiftRight_eq_div_pow,Int.tdiv_eq_ediv_of_nonneg (by omega)];simp;omega
 show γ .quo t (.int .u64 _) (.int .u64 _)=_;rw[binOp_quo];unfold Op.intDiv;simp only[show ¬((256:Int)=0) by decide,if_false];exact ξ (fun n=>(pure (Value.int .u64 n):Sem Θ)) e
@[go_sem] theorem aiq (t:τ) (a:BitVec 64):γ .rem t (q64 a) (.int .u64 256)=pure (q64 (aoU a)):=by rfl
theorem asb{t:τ}(h:fK w g t #[q8 x]):aq2 w (some ⟨g,0,none⟩) 1 [x]:=⟨Row.block (cs:= #[q8 x]) h,aW _,by decide⟩
section
def arn.empty(w:ω)(base:Nat):arn w base none 0 []:=arn.nil w base
attribute [local go_sem high] Ie Ig
end
def Qz (p:P7):Θ->ω->Prop:=fun v w=> ∃A c,v=.agg #[.int .i64 p.kind,.int .i64 p.dir,.int .i64 p.fG,q32 p.a,q32 p.b,.slice A p.body.length c,q64 p.je]/\aq2 w A c p.body
theorem Ou.toB{p:P7}(h:Ou base p v w):Qz p v w:=by obtain⟨bv,rfl,j⟩:=h;obtain⟨A,c,rfl,hB,_⟩:=j;exact⟨A,c,rfl,hB⟩
theorem Qz.grow{p:P7}(h:Qz p v w)(j:w w'):Qz p v w':=by obtain⟨A,c,e,hB⟩:=h;exact⟨A,c,e,hB.below j⟩
set_option maxRecDepth 8000
theorem GZ(p:gG)(q:P7)(kind:Int)(A:Option δ)(n c:Nat)(w:ω)(hn:q.body.length=n)(hB:aq2 w A c q.body)(O:q.body.length<=2000):Γ aj 115 #[.agg (gB p),.agg #[.int .i64 q.kind,.int .i64 q.dir,.int .i64 q.fG,q32 q.a,q32 q.b,.slice A n c,q64 q.je],.int .i64 kind] w λe w'=>e=.returned (.int .i64 (jw p q kind))/\w w':=by
 have K:=λW=>Lc p q kind A n c W hn O;have Q:=λW (h:aq2 W A c q.body)=>KZ p.key q A n c W hn.symm h O;obtain⟨er,j⟩:=fD (jw p q kind);rw[<-j];unfold jw at j;generalize vZ p q kind=N at K j;generalize nI p.key q=rb at Q j;obtain⟨x1,U⟩:=fD (p.state != 2);obtain⟨Z,V⟩:=fD (q.b != p.b);have M:er=if N=false then 1 else if x1=true then 6 else if Z=true then 110 else if rb=false then 90 else 0:=by grind
 clear j;unfold gB at K |-
 cases N <;> cases x1 <;> cases Z <;> cases rb <;>
   (simp only [bU, Bool.true_eq_false, if_true, if_false, reduceCtorEq]at M
    subst M
    replace U:=U.symm
    replace V:=V.symm
    go_enter func115,ntmps115
    go_wp2_with (first
      |(go_at_call 107;(with_reducible refine(K _).mono ?_);rintro e Y⟨rfl,H⟩;obtain⟨ac,_⟩:=qG H;have ae:w.heap.size+1<Y.heap.size:=(by have:=H.size;simp at this;omega);have ad:w.heap.size<Y.heap.size:=(by omega);have J:=iP (iP H))
      |(go_at_call 108;(with_reducible refine(Q _ (hB.below J)).mono ?_);rintro e w2⟨rfl,aa⟩))
    go_ret
    first
      |exact⟨rfl,J⟩
      |exact⟨rfl,gZ J aa⟩)
set_option maxRecDepth 8000
theorem akh(p:gG)(a b:BitVec 32)(w:ω):Γ aj 109 #[.agg (gB p),q32 a,q32 b] w λe w'=>e=.returned (.agg (gB (wo p a b)))/\w w':=by show Γ _ _ _ _ λe w'=>e=.returned (.agg #[.int .i64 p.side,.int .i64 p.fG,q32 p.base.k0,q32 p.base.k1,q32 p.base.k2,q32 p.base.k3,.int .i64 2,q32 a,q32 b,q32 (arp p.base a b).k0,q32 (arp p.base a b).k1,q32 (arp p.base a b).k2,q32 (arp p.base a b).k3,.bool p.half,q32 p.a2,q32 p.b2])/\w w';unfold gB;go_enter func109,ntmps109;go_wp2_with(first|(go_at_call 154;(with_reducible refine(acw p.base a b _).mono ?_);rintro e J⟨rfl,j⟩;go_loud(have H:fK J w 34 #[.int .i64 p.side,.int .i64 p.fG,q32 p.base.k0,q32 p.base.k1,q32 p.base.k2,q32 p.base.k3,.int .i64 2,q32 a,q32 b,q32 p.key.k0,q32 p.key.k1,q32 p.key.k2,q32 p.key.k3,.bool p.half,q32 p.a2,q32 p.b2]:=fK.below ((fK.new w 34 #[.int .i64 p.side,.int .i64 p.fG,q32 p.base.k0,q32 p.base.k1,q32 p.base.k2,q32 p.base.k3,.int .i64 2,q32 a,q32 b,q32 p.key.k0,q32 p.key.k1,q32 p.key.k2,q32 p.key.k3,.bool p.half,q32 p.a2,q32 p.b2]).alloc _) j (by simp;omega);have O:fK J (w.heap.size+1) 34 gd:=fK.below (fK.newAt _ 34 gd (w.heap.size+1) (by simp)) j (by simp);have Q:=iP (iP j);have V:=H.cell;have Y:=H.frozen))|(with_reducible refine jZ rfl 34 (.tmp 6) (.tmp 18) rfl (w.heap.size+1) #[.int .i64 p.side,.int .i64 p.fG,q32 p.base.k0,q32 p.base.k1,q32 p.base.k2,q32 p.base.k3,.int .i64 2,q32 a,q32 b,q32 (arp p.base a b).k0,q32 (arp p.base a b).k1,q32 (arp p.base a b).k2,q32 (arp p.base a b).k3,.bool p.half,q32 p.a2,q32 p.b2] rfl rfl 34 _ ((((O.far (p:=⟨w,9,none⟩) (by simp) _).far (p:=⟨w,10,none⟩) (by simp) _).far (p:=⟨w,11,none⟩) (by simp) _).far (p:=⟨w,12,none⟩) (by simp) _) (by kernel_rfl) rfl (by simp[aK,q32]) w w ((((Q.setCell (p:=⟨w,9,none⟩) ig _).setCell (p:=⟨w,10,none⟩) ig _).setCell (p:=⟨w,11,none⟩) ig _).setCell (p:=⟨w,12,none⟩) ig _) (by omega) ?_;intro w7 N K Z U));have M:=N.cell;refine β (v:=.agg #[.int .i64 p.side,.int .i64 p.fG,q32 p.base.k0,q32 p.base.k1,q32 p.base.k2,q32 p.base.k3,.int .i64 2,q32 a,q32 b,q32 (arp p.base a b).k0,q32 (arp p.base a b).k1,q32 (arp p.base a b).k2,q32 (arp p.base a b).k3,.bool p.half,q32 p.a2,q32 p.b2]) (by simp[results,results109,go_sem,M]) rfl ⟨rfl,K⟩
set_option maxRecDepth 8000
def jT (q:P7) (A:Option δ) (n c:Nat):Array Θ:= #[.int .i64 q.kind,.int .i64 q.dir,.int .i64 q.fG,q32 q.a,q32 q.b,.slice A n c,q64 q.je]
def iD(p:gG):(aj.info? 34).map (·.size)=some (gB p).size:=by rfl
def kK(p:gG):(gB p).all (·.oneCell')=true:=by simp[gB,aK,q32]
def kS(q:P7)(A:Option δ)(n c:Nat):(aj.info? 136).map (·.size)=some (jT q A n c).size:=by rfl
def qM(q:P7)(A:Option δ)(n c:Nat):(jT q A n c).all (·.oneCell')=true:=by simp[jT,aK,q32,q64]
def yj (w:ω) (p:gG) (q:P7) (err:Int) (e:ε) (w':ω):Prop:= ∃A c,e=.returned (.tuple #[.agg (gB p),.agg (jT q A q.body.length c),.int .i64 err])/\aq2 w' A c q.body/\w w'
def XB (w:ω) (p:gG) (err:Int) (e:ε) (w':ω):Prop:=e=.returned (.tuple #[.agg (gB p),.int .i64 err])/\w w'
def adX (w:ω) (q:P7) (err:Int) (e:ε) (w':ω):Prop:= ∃A c,e=.returned (.tuple #[.agg (jT q A q.body.length c),.int .i64 err])/\aq2 w' A c q.body/\w w'
def yt(w w':ω)(err:Int)(j:w w'):yj w gG.none_ P7.none_ err (.returned (.tuple #[.agg gd,.agg gi,err])) w':=⟨none,0,by rfl,aq2.nil _,j⟩
def zk(p:gG)(h:p.side=0):(p.side==0)=true/\(p.side != 0)=false:=by simp[h]
def Y0(p:gG)(h: ¬p.side=0):(p.side==0)=false/\(p.side != 0)=true:=by simp[h]
def XC(p:gG):(gB p)[1]? =some (.int .i64 p.fG):=rfl
def nK(p:gG)(i:Nat):(gB p)[i]? =(#[p.side,p.fG,q32 p.base.k0,q32 p.base.k1,q32 p.base.k2,q32 p.base.k3,p.state,q32 p.a,q32 p.b,q32 p.key.k0,q32 p.key.k1,q32 p.key.k2,q32 p.key.k3,p.half,q32 p.a2,q32 p.b2]:Array Θ)[i]? :=rfl
set_option maxRecDepth 8000
theorem qN(k:K4)(p:P7):(jA k p).kind=p.kind/\(jA k p).dir=p.dir/\(jA k p).fG=p.fG/\(jA k p).a=p.a/\(jA k p).b=p.b/\(jA k p).body=p.body:=by unfold jA;grind
theorem aax(k:K4)(kind dir fG:Int)(a b:BitVec 32)(w:ω):Γ aj 110 #[.agg #[q32 k.k0,q32 k.k1,q32 k.k2,q32 k.k3],.agg #[kind,dir,fG,q32 a,q32 b,nS,.int .u64 0]] w λe w'=> ∃A c,e=.returned (jT (jA k ⟨kind,dir,fG,a,b,[],0⟩) A 0 c)/\(∀W,aq2 W A c [])/\w w':=by refine(Qv k kind dir fG a b [] 0 none 0 0 w rfl (aq2.nil _) (by decide)).mono ?_;rintro e w'⟨v,rfl,J,H⟩;obtain⟨bv,rfl,A,c,rfl,hB,_⟩:=J;have j:(jA k ⟨kind,dir,fG,a,b,[],0⟩).body= []:=(qN k _).2.2.2.2.2;rw[j]at hB;refine⟨A,c,?_,λW=>⟨λh0=>absurd h0 (by decide),hB.cap,hB.max⟩,H⟩;rw[j];rfl
theorem adY(w w':ω)(p:gG)(k:K4)(q:P7)(H:q.body= [])(A:Option δ)(c:Nat)(J: ∀W,aq2 W A c [])(j:w w'):yj w p (jA k q) 0 (.returned (.tuple #[gB p,jT (jA k q) A 0 c,zI])) w':=by
 have:(jA k q).body= []:=by rw[(qN k q).2.2.2.2.2,H]
 refine⟨A,c,by grind,by grind,j⟩
set_option maxRecDepth 8000
theorem MR(p:gG)(q:P7)(A:Option δ)(n c:Nat)(w:ω)(hn:q.body.length=n)(hB:aq2 w A c q.body)(ac:q.body.length<=2000)(Y:iT p q≠0):Γ aj 60 #[.agg (gB p),.agg #[.int .i64 q.kind,.int .i64 q.dir,.int .i64 q.fG,q32 q.a,q32 q.b,.slice A n c,q64 q.je]] w (yj w gG.none_ P7.none_ (iT p q)):=by
 have V:=λW=>Lc p q 2 A n c W hn ac;have hr:=λW (h:aq2 W A c q.body)=>KZ p.base q A n c W hn.symm h ac;have O:=λW=>yc p W;by_cases J:p.side=0;focus(
  rcases hfb:vZ p q 2 with _ |_;focus((have H:iT p q=1:=by simp[iT, *]);rw[H];clear H Y;obtain⟨M,aa⟩:=zk p J;rw[M]at O;rw[hfb]at V;clear J hfb)
  rotate_left;focus(
   by_cases Z:p.state=1;focus(
    by_cases hy:q.a=p.a
    .cases ad:nI p.base q with
     |false=>(have H:iT p q=90:=by simp[iT, *]);rw[H];clear H Y;obtain⟨M,aa⟩:=zk p J;rw[M]at O;rw[hfb]at V;rw[ad]at hr;(have ae:(p.state != 1)=false:=by simp[Z]);(have ai:(q.a != p.a)=false:=by simp[hy]);clear J hfb Z hy ad;have j:Own w _ [_,_,_,_]:=Own.start4 w 34 136 34 136 (gB p) #[.int .i64 q.kind,.int .i64 q.dir,.int .i64 q.fG,q32 q.a,q32 q.b,.slice A n c,q64 q.je] gd gi;go_enter func60,ntmps60;go_wp2_with(first|((with_reducible first|refine gK j ?_ _ rfl rfl _ bD rfl (iD p) ?_|refine iQ j ?_ _ rfl rfl _ bF rfl (by kernel_rfl) ?_);(.first|rfl))|((with_reducible refine(V _).mono ?_);rintro fU fJ⟨rfl,K⟩;replace j:=j.grow K;have jQ:=λQ=>(j.b0.cell Q).trans (nK _ Q);have sK:=j.b1.cell)|((with_reducible first|refine(O _).mono ?_|refine(hr _ (hB.below j.below)).mono ?_);rintro fU fJ⟨rfl,K⟩;replace j:=j.grow K;have jQ:=j.b1.cell)|(with_reducible refine jv gd j rfl _ _ rfl rfl rfl (by kernel_rfl) (by kernel_rfl) (by simp[aK,q32,q64]) ?_;intro af U G7 G8;replace j:=U;clear U G7 G8)|(with_reducible refine EC gi j rfl _ _ rfl rfl rfl (by kernel_rfl) (by kernel_rfl) (by simp[aK,q32,q64]) ?_;intro ag N QA QB;replace j:=N;clear N QA QB));exact β (lY results60 _ _ _ _ _ _ _ _ _ rfl rfl rfl j.b2 j.b3 bD rfl (by kernel_rfl) bF rfl (by kernel_rfl)) rfl (yt _ _ _ j.below)
     |true=>exact absurd (by simp[iT, *]) Y
    focus((have H:iT p q=110:=by simp[iT, *]);rw[H];clear H Y;obtain⟨M,aa⟩:=zk p J;rw[M]at O;rw[hfb]at V;(have ae:(p.state != 1)=false:=by simp[Z]);(have ai:(q.a != p.a)=true:=by simp[hy]);clear J hfb Z hy))
   rotate_left;focus((have H:iT p q=6:=by simp[iT, *]);rw[H];clear H Y;obtain⟨M,aa⟩:=zk p J;rw[M]at O;rw[hfb]at V;(have ae:(p.state != 1)=true:=by simp[Z]);clear J hfb Z)))
 rotate_left 3
 .have H:iT p q=1:=by unfold iT;rw[Υ (.inl J)]
  rw[H];clear H Y;obtain⟨M,aa⟩:=Y0 p J;rw[M]at O;generalize vZ p q 2=fb at*;clear J;rcases fb with _ |_;skip;rotate_left;skip;all_goals(have j:Own w _ [_,_,_,_]:=Own.start4 w 34 136 34 136 (gB p) #[.int .i64 q.kind,.int .i64 q.dir,.int .i64 q.fG,q32 q.a,q32 q.b,.slice A n c,q64 q.je] gd gi;go_enter func60,ntmps60;go_wp2_with(first|((with_reducible first|refine gK j ?_ _ rfl rfl _ bD rfl (iD p) ?_|refine iQ j ?_ _ rfl rfl _ bF rfl (by kernel_rfl) ?_);(.first|rfl|(simp[aF,ψ];done)))|((with_reducible refine(V _).mono ?_);rintro fU fJ⟨rfl,K⟩;replace j:=j.grow K;have jQ:=λQ=>(j.b0.cell Q).trans (nK _ Q);have sK:=j.b1.cell)|((with_reducible first|refine(O _).mono ?_|refine(hr _ (hB.below j.below)).mono ?_);rintro fU fJ⟨rfl,K⟩;replace j:=j.grow K;have jQ:=j.b1.cell)|(with_reducible refine jv gd j rfl _ _ rfl rfl rfl (by kernel_rfl) (by kernel_rfl) (by simp[aK,q32,q64]) ?_;intro af U G7 G8;replace j:=U;clear U G7 G8)|(with_reducible refine EC gi j rfl _ _ rfl rfl rfl (by kernel_rfl) (by kernel_rfl) (by simp[aK,q32,q64]) ?_;intro ag N QA QB;replace j:=N;clear N QA QB));exact β (lY results60 _ _ _ _ _ _ _ _ _ rfl rfl rfl j.b2 j.b3 bD rfl (by kernel_rfl) bF rfl (by kernel_rfl)) rfl (yt _ _ _ j.below))
 all_goals(have j:Own w _ [_,_,_,_]:=Own.start4 w 34 136 34 136 (gB p) #[.int .i64 q.kind,.int .i64 q.dir,.int .i64 q.fG,q32 q.a,q32 q.b,.slice A n c,q64 q.je] gd gi;go_enter func60,ntmps60;go_wp2_with(first|((with_reducible first|refine gK j ?_ _ rfl rfl _ bD rfl (iD p) ?_|refine iQ j ?_ _ rfl rfl _ bF rfl (by kernel_rfl) ?_);(.first|rfl))|((with_reducible refine(V _).mono ?_);rintro fU fJ⟨rfl,K⟩;replace j:=j.grow K;have jQ:=λQ=>(j.b0.cell Q).trans (nK _ Q);have sK:=j.b1.cell)|((with_reducible refine(O _).mono ?_);rintro fU fJ⟨rfl,K⟩;replace j:=j.grow K;have jQ:=j.b1.cell)|(with_reducible refine jv gd j rfl _ _ rfl rfl rfl (by kernel_rfl) (by kernel_rfl) (by simp[aK,q32,q64]) ?_;intro af U G7 G8;replace j:=U;clear U G7 G8)|(with_reducible refine EC gi j rfl _ _ rfl rfl rfl (by kernel_rfl) (by kernel_rfl) (by simp[aK,q32,q64]) ?_;intro ag N QA QB;replace j:=N;clear N QA QB));exact β (lY results60 _ _ _ _ _ _ _ _ _ rfl rfl rfl j.b2 j.b3 bD rfl (by kernel_rfl) bF rfl (by kernel_rfl)) rfl (yt _ _ _ j.below))
theorem MS(p:gG)(q:P7)(A:Option δ)(n c:Nat)(w:ω)(hn:q.body.length=n)(hB:aq2 w A c q.body)(Y:q.body.length<=2000)(hs:p.side=0)(V:vZ p q 2=true)(hx:p.state=1)(hy:q.a=p.a)(aa:nI p.base q=true):Γ aj 60 #[.agg (gB p),.agg #[.int .i64 q.kind,.int .i64 q.dir,.int .i64 q.fG,q32 q.a,q32 q.b,.slice A n c,q64 q.je]] w (yj w (wo p p.a q.b) (jA p.base ⟨3,0,p.fG,p.a,q.b,[],0⟩) 0):=by
 have U:=λW=>Lc p q 2 A n c W hn Y;have Z:=λW (h:aq2 W A c q.body)=>KZ p.base q A n c W hn.symm h Y;have ht:=λW=>yc p W;obtain⟨ai,ap⟩:=zk p hs;rw[ai]at ht;rw[V]at U;rw[aa]at Z;have aq:(p.state != 1)=false:=by simp[hx]
 have ar:(q.a != p.a)=false:=by simp[hy]
 clear hs V hx hy aa;have H:Own w _ [_,_,_,_]:=Own.start4 w 34 136 34 136 (gB p) #[.int .i64 q.kind,.int .i64 q.dir,.int .i64 q.fG,q32 q.a,q32 q.b,.slice A n c,q64 q.je] gd gi;go_enter func60,ntmps60;go_wp2_with(first|((with_reducible first|refine gK H ?_ _ rfl rfl _ bD rfl (iD p) ?_|refine iQ H ?_ _ rfl rfl _ bF rfl (by kernel_rfl) ?_);(.first|rfl))|((with_reducible first|refine(U _).mono ?_|refine(Z _ (hB.below H.below)).mono ?_);rintro e fU⟨rfl,N⟩;replace H:=H.grow N;have iG:=λi=>(H.b0.cell i).trans (nK _ i);have jQ:=H.b1.cell)|((with_reducible first|refine(ht _).mono ?_|refine(akh p p.a q.b _).mono ?_);rintro e fU⟨rfl,N⟩;replace H:=H.grow N;have iG:=H.b1.cell)|(with_reducible refine oG (gB (wo p p.a q.b)) H rfl _ _ rfl rfl rfl (by kernel_rfl) (by kernel_rfl) (kK (wo p p.a q.b)) ?_;intro w7 uy ak Qw;replace H:=uy;clear uy ak Qw));apply jJ [(w.heap.size+1+1,none),(w.heap.size+1+1+1,none)];case lX=>intro u;simp only[bV,aq9,aP,ay,aA,aB,aT,aJ];rfl
 case hm=>kernel_rfl
 case hB=>kernel_rfl
 case hap=>kernel_rfl
 refine jI.is (c:=.agg (gB (wo p p.a q.b))) ?_ ?_;·(intro u w' K j;have af:=K.blk H.b0 (by intro o h;simp at h;try omega);refine fC (by first |rfl) ?_;intro M J;exact ι 34 _ rfl _ rfl 34 _ (0,0) _ af bD rfl (by kernel_rfl) (J _ _ (Stp.refl _ _) rfl))
 iterate 9(apply jI.is;·(intro u w' K j;simp[fH,aC,Is]at j;refine fC (by first |rfl) ?_;intro M J;have am:=λi=>((K.blk H.b0 (by intro o h;simp at h;try omega)).cell i).trans (nK (wo p p.a q.b) i);have an:=(K.blk H.b1 (by intro o h;simp at h;try omega)).cell;go_wp2_with(fail);(try simp only[j]at J);refine J _ _ ?_ rfl;first|exact Stp.refl _ _))
 refine jI.word (λv _=> ∃A c,v=.agg (jT (jA (wo p p.a q.b).base ⟨3,0,(wo p p.a q.b).fG,(wo p p.a q.b).a,(wo p p.a q.b).b,[],0⟩) A 0 c)/\ ∀W,aq2 W A c []) (λ_ _ _ h _=>h) ?_ ?_;·(intro u w' K j;simp[fH,aC,Is]at j;refine fC (by first |rfl) ?_;intro M J;go_wp2_with((with_reducible refine(aax (wo p p.a q.b).base 3 0 (wo p p.a q.b).fG (wo p p.a q.b).a (wo p p.a q.b).b _).mono ?_);rintro e w3⟨A3,c3,rfl,ac,Q⟩);(try simp only[j]at J);exact J _ _ (Stp.of_below Q _) (⟨A3,c3,rfl,ac⟩))
 refine jI.row (w.heap.size+1+1) 34 _ (gB (wo p p.a q.b)) (by simp) H.b2 (by rfl) 34 _ _ rfl (by kernel_rfl) (kK (wo p p.a q.b)) ?_ ?_;·(intro u w' K j;simp[fH,aC,Is]at j;exact⟨by first |rfl |simp[aF,ψ,j],rfl,by simp[Act.eval,j]⟩)
 refine jI.an9 (w.heap.size+1+1+1) 136 _ (λcells=> ∃A c,cells=jT (jA (wo p p.a q.b).base ⟨3,0,(wo p p.a q.b).fG,(wo p p.a q.b).a,(wo p p.a q.b).b,[],0⟩) A 0 c/\ ∀W,aq2 W A c []) (by simp) H.b3 136 _ _ rfl (by rintro cells⟨A,c,rfl,_⟩;exact⟨rfl,kS _ _ _ _,qM _ _ _ _⟩) ?_ ?_;·(intro u w' K j;obtain⟨A9,c9,ag,ae⟩:=j ⟨10,.data⟩ (by simp) rfl _ rfl;exact⟨by first |rfl |simp[aF,ψ],rfl,_,⟨A9,c9,rfl,ae⟩,by simp[Act.eval,ag]⟩)
 apply jI.is;·(intro u w' K j;simp[fH,aC,Is]at j;refine fC (by first |rfl |simp[aF,ψ,j]) ?_;intro M J;skip;go_wp2_with(fail);(try simp only[j]at J);refine J _ _ ?_ rfl;first|exact Stp.refl _ _|exact Stp.of_below Q _)
 refine jI.nil (by simp[W2.fit,qy]) ?_;intro u w7 K j;simp only[gQ]at j;have h5:fK w7 (w.heap.size+1+1) 34 (gB (wo p p.a q.b)):=j 11 _ rfl;obtain⟨al,⟨A6,c6,rfl,ad⟩,h6⟩:=j 12 _ rfl;have O:=j 13 _ rfl;simp only[Is]at O;go_wp2_with fail;exact β (lY results60 _ _ _ _ _ _ _ _ _ rfl rfl O h5 h6 bD rfl (iD _) bF rfl (kS _ _ _ _)) rfl (adY w _ (wo p p.a q.b) p.base _ rfl _ _ ad (H.below.trans (K.below H.below.size (by intro k o h;simp at h;omega))))
theorem Uw(p:gG)(q:P7)(A:Option δ)(n c:Nat)(w:ω)(hn:q.body.length=n)(hB:aq2 w A c q.body)(K:q.body.length<=2000):Γ aj 60 #[gB p,.agg #[q.kind,q.dir,q.fG,q32 q.a,q32 q.b,.slice A n c,q64 q.je]] w (yj w (wu p q) (rP p q) (iT p q)):=by
 by_cases h:iT p q=0
 .unfold wu rP;rw[h,Υ rfl,Υ rfl];have H:p.side=0:=by by_cases a:p.side=0;(.exact a);.simp[iT,a]at h
  have j:vZ p q 2=true:=by cases a:vZ p q 2;(.simp[iT,a]at h);.rfl
  have J:p.state=1:=by by_cases a:p.state=1;(.exact a);.simp[iT,a,H,j]at h
  have M:q.a=p.a:=by by_cases a:q.a=p.a;(.exact a);.simp[iT,a,H,j,J]at h
  have N:nI p.base q=true:=by cases a:nI p.base q;(.simp[iT,a,H,j,J,M]at h);.rfl
  exact MS p q A n c w hn hB K H j J M N
 .unfold wu rP;rw[Ξ h,Ξ h];exact MR p q A n c w hn hB K h
set_option maxRecDepth 8000
theorem aay(p:gG)(q:P7)(A:Option δ)(n c:Nat)(w:ω)(hn:q.body.length=n)(hB:aq2 w A c q.body)(aa:q.body.length<=2000):Γ aj 62 #[gB p,.agg #[q.kind,q.dir,q.fG,q32 q.a,q32 q.b,.slice A n c,q64 q.je]] w (XB w (GY p q) (jw p q 6)):=by
 unfold GY;have Q:=λW Z=>GZ p q 6 A n c W hn Z aa;have j:Own w _ [_,_,_]:=Own.start3 w 34 136 34 (gB p) #[q.kind,q.dir,q.fG,q32 q.a,q32 q.b,.slice A n c,q64 q.je] gd;by_cases h:jw p q 6=0;.rw[Υ h,h];rw[h]at Q;go_enter func62,ntmps62;go_wp2_with(first|((with_reducible refine gK j ?_ _ rfl rfl _ bD rfl (iD p) ?_);(.first|rfl))|((with_reducible refine iQ j ?_ _ rfl rfl _ bF rfl (by kernel_rfl) ?_);rfl)|((with_reducible first|refine(Q _ (hB.below j.below)).mono ?_|refine(La p _).mono ?_);rintro Y V⟨rfl,U⟩;replace j:=j.grow U)|(with_reducible refine jv (gB (nJ p)) j rfl _ _ rfl rfl rfl (iD (nJ p)) (by kernel_rfl) (kK (nJ p)) ?_;intro ac J K M;replace j:=J;clear J K M)|(with_reducible refine jv gd j rfl _ _ rfl rfl rfl (by kernel_rfl) (by kernel_rfl) (by simp[aK,q64]) ?_;intro ad H N O;replace j:=H;clear H N O));exact β (yF results62 _ _ _ _ _ _ rfl rfl j.b2 bD rfl (iD _)) rfl ⟨rfl,j.below⟩
 .rw[Ξ h];generalize jw p q 6=tk at*;have hb:(tk != 0)=true:=by grind
  go_enter func62,ntmps62;go_wp2_with(first|((with_reducible refine gK j ?_ _ rfl rfl _ bD rfl (iD p) ?_);rfl)|((with_reducible refine iQ j ?_ _ rfl rfl _ bF rfl (by kernel_rfl) ?_);rfl)|((with_reducible refine(Q _ (hB.below j.below)).mono ?_);rintro Y V⟨rfl,U⟩;replace j:=j.grow U)|(with_reducible refine jv (gB (nJ p)) j rfl _ _ rfl rfl rfl (iD (nJ p)) (by kernel_rfl) (kK (nJ p)) ?_;intro ac J K M;replace j:=J;clear J K M)|(with_reducible refine jv gd j rfl _ _ rfl rfl rfl (by kernel_rfl) (by kernel_rfl) (by simp[aK,q64]) ?_;intro ad H N O;replace j:=H;clear H N O));exact β (yF results62 _ _ _ _ _ _ rfl rfl j.b2 bD rfl (by rfl)) rfl ⟨by rfl,j.below⟩
set_option maxRecDepth 8000
set_option maxRecDepth 8000
theorem Own.add2(h:Own w W [x0,x1]){t:τ}(H:fK W g t cs)(J:w.heap.size<=g)(h0:x0.1≠g)(h1:x1.1≠g):Own w W [x0,x1,(g,t,cs)]:=by
 refine⟨h.below,?_,?_⟩
 .intro x j;simp only[bJ,dH,or_false]at j;rcases j with rfl |rfl |rfl;.exact h.blk _ (by simp)
  .exact h.blk _ (by simp)
  .exact⟨J,H⟩
 .have:=h.nodup;simp only[List.map_cons,List.map_nil,List.nodup_cons,bJ,dH,or_false]at this |-;refine⟨?_,h1,⟨by simp,by simp⟩⟩;rintro (a |a);.exact this.1 a
  .exact h0 a
theorem Own.aoV{j:Bk}(h:Own w W [x0,x1,j]){t:τ}(K:fK W g t cs)(M:w.heap.size<=g)(h0:x0.1≠g)(h1:x1.1≠g)(J:j.1≠g):Own w W [x0,x1,j,(g,t,cs)]:=by
 refine⟨h.below,?_,?_⟩
 .intro x H;simp only[bJ,dH,or_false]at H;rcases H with rfl |rfl |rfl |rfl;.exact h.blk _ (by simp)
  .exact h.blk _ (by simp)
  .exact h.blk _ (by simp)
  .exact⟨M,K⟩
 .have:=h.nodup;simp only[List.map_cons,List.map_nil,List.nodup_cons,bJ,dH,or_false]at this |-;refine⟨?_,⟨?_,J,⟨by simp,by simp⟩⟩⟩;.rintro (a |a |a);(.exact this.1 (.inl a));(.exact this.1 (.inr a));.exact h0 a
  .rintro (a |a);(.exact this.2.1 a);.exact h1 a
def aaz: gi=jT P7.none_ none P7.none_.body.length 0:=by kernel_rfl
def fV.apart(h:fV base bs v w)(V:fK w g 136 gi)(X:Array Θ):fV base bs v (w.setRow g X):=by
 obtain⟨J,U,e,hB,N⟩:=h;have Q: ∀j,0<bs.length->J=some ⟨j,0,none⟩->j≠g:=by rintro j h0 rfl rfl;obtain⟨b,off,e2,O,hc⟩:=hB.row (by rw[aq8];exact h0);simp only[aO,cZ,and_true]at e2;obtain⟨rfl,rfl⟩:=e2;have h1:=hc 0 _ (arK bs 0 h0);have H:=V.cell 0;rw[aJ]at h1;rw[h1]at H;simp[q8]at H
 refine⟨J,U,e,⟨λh0=>?_,hB.cap,hB.max⟩,λh0=>?_⟩
 .have h1:0<bs.length:=by rwa [aq8]at h0
  obtain⟨j,rfl,H,K,M⟩:=N h1;obtain⟨b,off,e2,O,hc⟩:=hB.row h0;simp only[aO,cZ,and_true]at e2;obtain⟨rfl,rfl⟩:=e2;refine⟨j,0,rfl,by simpa using O,λZ u Y=>?_⟩;rw[World.cell?_of_block (ζ w g j X (Q j h1 rfl))];exact hc Z u Y
 .obtain⟨j,rfl,H,K,M⟩:=N h0;refine⟨j,rfl,H,by simpa using K,λi hi=>?_⟩;have:=M i hi;unfold World.frozen? at this |-;rw[ζ w g j X (Q j h0 rfl)];exact this
theorem ad2(p:gG)(body:List UInt8)(A:Option δ)(n c:Nat)(w:ω)(hn:body.length=n)(hB:aq2 w A c body)(az:body.length<=2000):Γ aj 114 #[.agg (gB p),.slice A n c] w (adX w (yh p body) (wz p body)):=by
 have ai:=λW=>Qy p W;have aq:=λW (h:aq2 W A c body)=>TR A n c body W hn h (by omega);have Z: ∀W A2 c2,Γ aj 149 #[.agg #[.int .i64 5,.int .i64 (kR p),p.fG,.int .u32 0,q32 p.b,.slice A2 n c2,.int .u64 0]] W λe w'=>e=.returned (.bool (may (yg p body)))/\W w':=λW A2 c2=>Uu (yg p body) A2 n c2 W hn.symm (by show body.length<=_;omega);have aD: ∀W A2 c2,aq2 W A2 c2 body->Γ aj 110 #[.agg #[q32 p.key.k0,q32 p.key.k1,q32 p.key.k2,q32 p.key.k3],.agg #[.int .i64 5,.int .i64 (kR p),p.fG,.int .u32 0,q32 p.b,.slice A2 n c2,.int .u64 0]] W λe w'=> ∃A3 c3,e=.returned (.agg (jT (jA p.key (yg p body)) A3 n c3))/\fV W body (.slice A3 n c3) w'/\W w':=by
  intro W A2 c2 h;refine(Qv p.key 5 (kR p) p.fG 0 p.b body 0 A2 n c2 W hn h az).mono ?_;rintro e w'⟨v,rfl,hv,O⟩;obtain⟨bv,rfl,hN⟩:=hv;have Y:(jA p.key (yg p body)).body=body:=(qN p.key (yg p body)).2.2.2.2.2;have ae:fV W body bv w':=by have:=hN;rwa [show(jA p.key ⟨5,kR p,p.fG,0,p.b,body,0⟩).body=body from Y]at this
  obtain⟨A3,c3,e3,h3⟩:=id ae;rw[hn]at e3;subst e3;exact⟨A3,c3,rfl,ae,O⟩
 have j:Own w ((w.alloc (.cells (gB p) 34)).alloc (.cells gi 136)) [_,_]:=Own.iY w 34 136 (gB p) gi;have aa:=ah hn;go_enter func114,ntmps114;go_wp2_with fail;generalize ((w.alloc (.cells (gB p) 34)).alloc (.cells gi 136))=w1 at j |-;apply mZ;case lX=>intro u;simp only[bV,aq9,aP,ay,aA,aB,aT,aJ];rfl
 case hm=>kernel_rfl
 case hB=>kernel_rfl
 case hA=>kernel_rfl
 case hap=>kernel_rfl
 refine lI.is (c:=.agg (gB p)) ?_ ?_;·(intro u w' K H;have ap:=(j.b0).below K (j.b0).lt;refine fF (by first |rfl) ?_;intro M J;exact ι 34 _ rfl _ rfl 34 _ (0,0) _ ap bD rfl (by kernel_rfl) (J _ _ gY rfl))
 iterate 6(first|(apply lI.is;·(intro u w' K H;simp[fH,aC,Is]at H;refine fF (by first |rfl) ?_;intro M J;have a7:=λi=>((j.b0.below K j.b0.lt).cell i).trans (nK p i);go_wp2_with(fail);(try simp only[H]at J);refine J _ _ ?_ rfl;first|exact aH _ _))|(apply lI.is;·(intro u w' K H;simp[fH,aC,Is]at H;refine fF (by first |rfl) ?_;intro M J;skip;go_wp2_with(((with_reducible refine(ai _).mono ?_);rintro e w3⟨rfl,ac⟩));(try simp only[H]at J);refine J _ _ ?_ rfl;first|exact ac))|(apply lI.is;·(intro u w' K H;simp[fH,aC,Is]at H;refine fF (by first |rfl) ?_;intro M J;skip;go_wp2_with(fail);refine J _ _ ?_ rfl;first|exact aH _ _)))
 refine lI.word (fV w1 body) (λ_ _ _ h O=>h.grow O) ?_ ?_;·(intro u w' K H;simp[fH,aC,Is]at H;skip;refine fF (by first |rfl) ?_;intro M J;go_wp2_with((with_reducible refine(aq _ ((hB.below j.below).below K)).mono ?_);rintro e w3⟨v3,rfl,aE,ac⟩);(try simp only[H]at J);exact J _ _ (ac) (aE.mono K.size))
 refine lI.word (λv w'=> ∃A2 c2,v=.agg #[.int .i64 5,.int .i64 (kR p),p.fG,.int .u32 0,q32 p.b,.slice A2 n c2,.int .u64 0]/\fV w1 body (.slice A2 n c2) w') (λ_ _ _ h O=>(by obtain⟨A2,c2,e,h2⟩:=h;exact⟨A2,c2,e,h2.grow O⟩)) ?_ ?_;·(intro u w' K H;simp[fH,aC,Is]at H;obtain⟨ar,au,av,af⟩:=H;obtain⟨A2,c2,ad,a8⟩:=id af;rw[aa.out]at ad;refine fF (by first |rfl) ?_;intro M J;go_wp2_with(fail);(try simp only[ar,au,av,ad]at J);exact J _ _ gY (⟨A2,c2,rfl,ad▸af⟩))
 refine lI.word (Ov w1) (λ_ _ _ h O=>h.grow O) ?_ ?_;·(intro u w' K H;simp[fH,aC,Is]at H;skip;refine fF (by first |rfl) ?_;intro M J;go_wp2_with(fail);exact J _ _ jm (⟨_,rfl,K.size,fK.new _ _ _⟩))
 refine lI.last ?_;intro u w8 K H;simp only[gQ]at H;obtain⟨A2,c2,h8,aL⟩:=H 8 _ rfl;obtain⟨g,h9,aw,xW⟩:=H 9 _ rfl;refine⟨rfl,?_⟩;intro M J;have ba:=j.b1.lt;replace j:=(j.grow K).add2 xW (aG j.below.size aw) (by show w.heap.size≠g;omega) (by show w.heap.size+1≠g;omega);refine η 136 _ _ rfl g #[.int .i64 5,.int .i64 (kR p),p.fG,.int .u32 0,q32 p.b,.slice A2 n c2,.int .u64 0] (by simp[Act.eval,h9]) (by simp[Act.eval,h8]) 136 _ xW (by kernel_rfl) rfl (by simp[aK,q32,q64]) (J _ _ ?_);have aM:=aL.apart xW #[.int .i64 5,.int .i64 (kR p),p.fG,.int .u32 0,q32 p.b,.slice A2 n c2,.int .u64 0];replace j:=Own.with (L1:= [_,_]) j (jk j.below (j.blk (g,136,gi) (by simp)).1 #[.int .i64 5,.int .i64 (kR p),.int .i64 p.fG,.int .u32 0,q32 p.b,.slice A2 n c2,.int .u64 0]) (fK.row xW #[.int .i64 5,.int .i64 (kR p),.int .i64 p.fG,.int .u32 0,q32 p.b,.slice A2 n c2,.int .u64 0]) (λk K=>ζ w8 g k #[.int .i64 5,.int .i64 (kR p),p.fG,.int .u32 0,q32 p.b,.slice A2 n c2,.int .u64 0] K);generalize w8.setRow g #[.int .i64 5,.int .i64 (kR p),p.fG,.int .u32 0,q32 p.b,.slice A2 n c2,.int .u64 0]=w9 at*;have a5:=λi=>(j.b0.cell i).trans (nK p i);have al:aq2 w9 A2 c2 body:=by obtain⟨A',c',e,h,_⟩:=aM;rw[aa.out]at e;injection e with e1 e2 e3;rw[e1,e3];exact h
 by_cases Q:p.state=2;focus((have aR:(p.state != 2)=false:=by simp[Q]);rcases hm:may (yg p body) with _ |_;(focus(rw[hm]at Z;(have N:wz p body=1:=by unfold wz;rw[Ξ (λh=>h Q),Υ hm]);(have V:yh p body=P7.none_:=by unfold yh;rw[N];rfl);go_wp2_with(first|((with_reducible refine mJ j ?_ _ rfl rfl _ bF rfl (by kernel_rfl) ?_);(.first|rfl))|((with_reducible refine(Z _ A2 c2).mono ?_);rintro e fU⟨rfl,kQ⟩;replace j:=j.grow kQ;have fJ:=λi=>(j.b0.cell i).trans (nK p i))|(with_reducible refine kY gi j rfl _ _ rfl rfl rfl (by kernel_rfl) (by kernel_rfl) (by simp[aK,q32,q64]) ?_;intro a4 U G7 G8;replace j:=U;clear U G7 G8))));rotate_left;.rw[hm]at Z;(have N:wz p body=0:=by unfold wz;rw[Ξ (λh=>h Q),Ξ (by simp[hm])]);(have V:yh p body=jA p.key (yg p body):=by unfold yh;rw[N,Υ rfl]);go_wp2_with(first|((with_reducible refine mJ j ?_ _ rfl rfl _ bF rfl (by kernel_rfl) ?_);(.first|rfl))|((with_reducible refine(Z _ A2 c2).mono ?_);rintro e fU⟨rfl,kQ⟩;replace j:=j.grow kQ;have fJ:=λi=>(j.b0.cell i).trans (nK p i))|((with_reducible refine(aD _ A2 c2 (al.below kQ)).mono ?_);rintro e fU⟨A3,c3,rfl,an,fJ⟩;have iG:=j.b1.lt;replace j:=j.grow fJ)|(with_reducible refine kY (jT (jA p.key (yg p body)) A3 n c3) j rfl _ _ rfl rfl rfl (kS _ _ _ _) (by kernel_rfl) (qM _ _ _ _) ?_;intro a1 ag a6 ax;replace j:=ag;have ak:=an.kept (by omega) (λk a9 _=>ax k (by omega))));have Y:(jA p.key (yg p body)).body=body:=(qN p.key (yg p body)).2.2.2.2.2;(have am:aq2 a1 A3 c3 body:=by obtain⟨A',c',e,h,_⟩:=ak;rw[aa.out]at e;injection e with e1 e2 e3;rw[e1,e3];exact h);exact β (yF results114 _ _ _ _ _ _ rfl rfl j.b1 bF rfl (kS _ _ _ _)) rfl (by rw[V,N];exact⟨A3,c3,by rw[Y,aa.out];rfl,by rw[Y];exact am,j.below⟩))
 rotate_left;focus((have aR:(p.state != 2)=true:=by simp[Q]);(have N:wz p body=6:=by unfold wz;rw[Υ Q]);(have V:yh p body=P7.none_:=by unfold yh;rw[N];rfl);go_wp2_with(first|((with_reducible refine mJ j ?_ _ rfl rfl _ bF rfl (by kernel_rfl) ?_);(.first|(simp[aF,ψ];done)))|(with_reducible refine kY gi j rfl _ _ rfl rfl rfl (by kernel_rfl) (by kernel_rfl) (by simp[aK,q32,q64]) ?_;intro a4 U G7 G8;replace j:=U;clear U G7 G8)))
 all_goals(exact β (yF results114 _ _ _ _ _ _ rfl rfl j.b1 bF rfl (by kernel_rfl)) rfl (by rw[V,N];exact⟨none,0,by rw[<-aaz];rfl,aq2.nil _,j.below⟩))
set_option maxRecDepth 8000
theorem ad3{t:τ}{p:gG}(hB:fK W g t (gB p)):W.rangeAt g 9 [q32 p.key.k0,q32 p.key.k1,q32 p.key.k2,q32 p.key.k3]:=by intro H v j;rw[hB.cell];match H,j with|0,j |1,j |2,j |3,j=>exact j
def agI(x:UInt8)(h:base<=W.heap.size):fV base [x] (.slice W 1 1) (W.alloc (.cells #[q8 x] 5)):=⟨_,1,rfl,asb (fK.new W _ _),λ_=>⟨W,rfl,h,by simp,λi hi=>by
 obtain rfl:i=0:=by simpa using hi
 exact(fK.new W 5 #[q8 x]).frozen 0⟩⟩
def Ld(h:fV base [x] (.slice A 1 c) W):aq2 W A c [x]:=by obtain⟨j,H,e,hB,_⟩:=h;injection e with e1 e2 e3;rw[e1,e3];exact hB
theorem agJ(p:gG)(M:UInt8)(w:ω):Γ aj 69 #[.agg (gB p),q8 M] w (yj w (arV p) (MQ p M) (IV p)):=by
 have J:Own w _ [_,_,_]:=Own.start3 w 34 34 136 (gB p) gd gi;have an:=λi=>(J.b0.cell i).trans (nK p i);have ac:=λW=>Qx p W;have av:=λW=>Qy p W;have ax:=λW=>La p W;have aD: ∀W A2 c2,aq2 W A2 c2 [M]->Γ aj 110 #[.agg #[q32 p.key.k0,q32 p.key.k1,q32 p.key.k2,q32 p.key.k3],.agg #[.int .i64 6,.int .i64 (kR p),.int .i64 p.fG,.int .u32 0,q32 p.b,.slice A2 1 c2,.int .u64 0]] W λe w'=> ∃A3 c3,e=.returned (.agg (jT (jA p.key ⟨6,kR p,p.fG,0,p.b,[M],0⟩) A3 1 c3))/\fV W [M] (.slice A3 1 c3) w'/\W w':=by intro W A2 c2 h;refine(Qv p.key 6 (kR p) p.fG 0 p.b [M] 0 A2 1 c2 W rfl h (by show(1:Nat)<=2000;decide)).mono ?_;rintro e w'⟨v,rfl,hv,Q⟩;obtain⟨bv,rfl,hN⟩:=hv;rw[show(jA p.key ⟨6,kR p,p.fG,0,p.b,[M],0⟩).body= [M] from(qN p.key _).2.2.2.2.2]at hN;obtain⟨A3,c3,e3,h3⟩:=id hN;simp only[bK,dU,aJ]at e3;subst e3;exact⟨A3,c3,rfl,hN,Q⟩
 by_cases hx:p.state=2;focus((have aE:(p.state != 2)=false:=by simp[hx]);rcases hm:lS p with _ |_;(focus(rw[hm]at ac;(have O:IV p=1:=by unfold IV;rw[Ξ (λh=>h hx),Υ hm]);(have e1:arV p=gG.none_:=by unfold arV;rw[O];rfl);(have e2:MQ p M=P7.none_:=by unfold MQ;rw[O];rfl);rw[O,e1,e2];go_enter func69,ntmps69;go_wp2_with(first|((with_reducible refine gK J ?_ _ rfl rfl _ bD rfl (iD p) ?_);(.first|rfl))|((with_reducible refine(ac _).mono ?_);rintro e w1⟨rfl,fU⟩;replace J:=J.grow fU)|(with_reducible refine kY gd J rfl _ _ rfl rfl rfl (by kernel_rfl) (by kernel_rfl) (by simp[aK,q32,q64]) ?_;intro aL Y ad ak;replace J:=Y;clear Y ad ak)|(with_reducible refine jv gi J rfl _ _ rfl rfl rfl (by kernel_rfl) (by kernel_rfl) (by simp[aK,q32,q64]) ?_;intro aM Z al ae;replace J:=Z;clear Z al ae))));rotate_left;.rw[hm]at ac;(have O:IV p=0:=by unfold IV;rw[Ξ (λh=>h hx),Ξ (by simp[hm])]);(have e1:arV p=nJ p:=by unfold arV;rw[O,Υ rfl]);(have e2:MQ p M=jA p.key ⟨6,kR p,p.fG,0,p.b,[M],0⟩:=by unfold MQ;rw[O,Υ rfl]);rw[O,e1,e2];go_enter func69,ntmps69;go_wp2_with(first|((with_reducible refine gK J ?_ _ rfl rfl _ bD rfl (iD p) ?_);(.first|rfl))|((with_reducible refine(ac _).mono ?_);rintro e w1⟨rfl,fU⟩;replace J:=J.grow fU));apply mZ;(case lX=>intro u;simp only[bV,aq9,aP,ay,aA,aB,aT,aJ];rfl);(case hm=>kernel_rfl);(case hB=>kernel_rfl);(case hA=>kernel_rfl);(case hap=>kernel_rfl);apply lI.is;(·(intro u w' K j;simp[fH,aC,Is]at j;refine fF (by first |rfl) ?_;intro N H;skip;go_wp2_with(fail);(try simp only[j]at H);refine H _ _ ?_ rfl;first|exact aH _ _));refine lI.is (c:=.agg #[q32 p.key.k0,q32 p.key.k1,q32 p.key.k2,q32 p.key.k3]) ?_ ?_;(·(intro u w' K j;simp[fH,aC,Is]at j;refine fF (by first |rfl) ?_;intro N H;have U:=J.b0.below K J.b0.lt;refine wp_load_mid 32 _ rfl w 9 (by simp[Act.eval,j]) [q32 p.key.k0,q32 p.key.k1,q32 p.key.k2,q32 p.key.k3] _ (ad3 U) underlying32 rfl (by kernel_rfl) ?_;exact H _ _ gY rfl));refine lI.is (c:=.agg (gB p)) ?_ ?_;(·(intro u w' K j;have U:=(J.b0).below K (J.b0).lt;refine fF (by first |rfl) ?_;intro N H;exact ι 34 _ rfl _ rfl 34 _ (0,0) _ U bD rfl (by kernel_rfl) (H _ _ gY rfl)));(iterate 6(first|(apply lI.is;·(intro u w' K j;simp[fH,aC,Is]at j;refine fF (by first |rfl) ?_;intro N H;have an:=λi=>((J.b0.below K J.b0.lt).cell i).trans (nK p i);go_wp2_with(fail);(try simp only[j]at H);refine H _ _ ?_ rfl;first|exact aH _ _))|(apply lI.is;·(intro u w' K j;simp[fH,aC,Is]at j;refine fF (by first |rfl) ?_;intro N H;skip;go_wp2_with(((with_reducible refine(av _).mono ?_);rintro e w3⟨rfl,V⟩));(try simp only[j]at H);refine H _ _ ?_ rfl;first|exact V))|(apply lI.is;·(intro u w' K j;simp[fH,aC,Is]at j;refine fF (by first |rfl) ?_;intro N H;skip;go_wp2_with(fail);(try simp only[j]at H);refine H _ _ ?_ rfl;first|exact aH _ _))));refine lI.word (fV w1 [M]) (λ_ _ _ h Q=>h.grow Q) ?_ ?_;(·(intro u w' K j;simp[fH,aC,Is]at j;skip;refine fF (by first |rfl) ?_;intro N H;go_wp2_with(fail);(try simp only[j]at H);exact H _ _ jm (agI M K.size)));refine lI.word (λv w'=> ∃A2 c2,v=.agg #[.int .i64 6,.int .i64 (kR p),.int .i64 p.fG,.int .u32 0,q32 p.b,.slice A2 1 c2,.int .u64 0]/\fV w1 [M] (.slice A2 1 c2) w') ((λ_ _ _ h Q=>(by obtain⟨A2,c2,e,h2⟩:=h;exact⟨A2,c2,e,h2.grow Q⟩))) ?_ ?_;(·(intro u w' K j;simp[fH,aC,Is]at j;obtain⟨af,az,ag,ap⟩:=j;obtain⟨A2,c2,aa,aq⟩:=id ap;simp only[bK,dU,aJ]at aa;refine fF (by first |rfl) ?_;intro N H;go_wp2_with(fail);(try simp only[af,az,ag,aa]at H);exact H _ _ gY (⟨A2,c2,rfl,aa▸ap⟩)));refine lI.word (λv w'=> ∃A3 c3,v=.agg (jT (jA p.key ⟨6,kR p,p.fG,0,p.b,[M],0⟩) A3 1 c3)/\fV w1 [M] (.slice A3 1 c3) w') ((λ_ _ _ h Q=>(by obtain⟨A2,c2,e,h2⟩:=h;exact⟨A2,c2,e,h2.grow Q⟩))) ?_ ?_;(·(intro u w' K j;simp[fH,aC,Is]at j;obtain⟨af,⟨A2,c2,aa,aq⟩,ag⟩:=j;refine fF (by first |rfl) ?_;intro N H;go_wp2_with((with_reducible refine(aD _ A2 c2 (Ld aq)).mono ?_);rintro e w3⟨A3,c3,rfl,aw,V⟩);(try simp only[af,ag,aa]at H);exact H _ _ (V) (⟨A3,c3,rfl,aw.mono K.size⟩)));refine lI.word (Ov w1) (λ_ _ _ h Q=>h.grow Q) ?_ ?_;(·(intro u w' K j;simp[fH,aC,Is]at j;skip;refine fF (by first |rfl) ?_;intro N H;go_wp2_with(fail);(try simp only[j]at H);exact H _ _ jm (⟨_,rfl,K.size,fK.new _ _ _⟩)));refine lI.last ?_;intro u w8 K j;simp only[gQ]at j;obtain⟨A3,c3,h8,ar⟩:=j 11 _ rfl;obtain⟨g,h9,ai,xW⟩:=j 12 _ rfl;refine⟨rfl,?_⟩;intro N H;have a1:=J.b2.lt;replace J:=(J.grow K).aoV xW (aG J.below.size ai) (by show w.heap.size≠g;omega) (by show w.heap.size+1≠g;omega) (by show w.heap.size+1+1≠g;omega);refine η 136 _ _ rfl g (jT (jA p.key ⟨6,kR p,p.fG,0,p.b,[M],0⟩) A3 1 c3) (by simp[Act.eval,h9]) (by simp[Act.eval,h8]) 136 _ xW (kS _ _ _ _) rfl (qM _ _ _ _) (H _ _ ?_);have au:=ar.apart xW (jT (jA p.key ⟨6,kR p,p.fG,0,p.b,[M],0⟩) A3 1 c3);(have aR:w.heap.size+1+1<g:=by have:=ai;omega);replace J:=Own.with (L1:= [_,_,_]) J (jk J.below (J.blk (g,136,gi) (by simp)).1 (jT (jA p.key ⟨6,kR p,p.fG,0,p.b,[M],0⟩) A3 1 c3)) (fK.row xW (jT (jA p.key ⟨6,kR p,p.fG,0,p.b,[M],0⟩) A3 1 c3)) (λk K=>ζ w8 g k (jT (jA p.key ⟨6,kR p,p.fG,0,p.b,[M],0⟩) A3 1 c3) K);clear xW ar an;generalize w8.setRow g (jT (jA p.key ⟨6,kR p,p.fG,0,p.b,[M],0⟩) A3 1 c3)=w9 at*;have am:(jA p.key ⟨6,kR p,p.fG,0,p.b,[M],0⟩).body= [M]:=(qN p.key _).2.2.2.2.2;have YN: ∀w7,Stp [(w.heap.size+1,none),(w.heap.size+1+1,none)] w9 w7->aq2 w7 A3 c3 [M]:=λw7 K=>Ld (au.kept K.size (λk h1 h2=>K.block k h2 (by intro o ho;simp at ho;omega)));go_wp2_with fail;simp only[h9];clear h8 h9 au ai;apply jJ [(w.heap.size+1,none),(w.heap.size+1+1,none)];(case lX=>intro u;simp only[bV,aq9,aP,ay,aA,aB,aT,aJ];rfl);(case hm=>kernel_rfl);(case hB=>kernel_rfl);(case hap=>kernel_rfl);refine jI.is (c:=.agg (gB p)) ?_ ?_;(·(intro u w' K j;have U:=K.blk J.b0 (by intro o h;simp at h;try omega);refine fC (by first |rfl) ?_;intro N H;exact ι 34 _ rfl _ rfl 34 _ (0,0) _ U bD rfl (by kernel_rfl) (H _ _ (Stp.refl _ _) rfl)));apply jI.is;(·(intro u w' K j;simp[fH,aC,Is]at j;refine fC (by first |rfl) ?_;intro N H;skip;go_wp2_with(((with_reducible refine(ax _).mono ?_);rintro e w3⟨rfl,V⟩));(try simp only[j]at H);refine H _ _ ?_ rfl;first|exact Stp.of_below V _));refine jI.is (c:=.agg (jT (jA p.key ⟨6,kR p,p.fG,0,p.b,[M],0⟩) A3 1 c3)) ?_ ?_;(·(intro u w' K j;have U:=K.blk J.b3 (by intro o h;simp at h;first |omega);refine fC (by first |rfl) ?_;intro N H;exact ι 136 _ rfl _ rfl 136 _ (0,0) _ U bF rfl (kS _ _ _ _) (H _ _ (Stp.refl _ _) rfl)));refine jI.row (w.heap.size+1) 34 _ (gB (nJ p)) (by simp) J.b1 (by rfl) 34 _ _ rfl (by kernel_rfl) (kK (nJ p)) ?_ ?_;(·(intro u w' K j;simp[fH,aC,Is]at j;exact⟨by first |rfl |simp[aF,ψ,j],rfl,by simp[Act.eval,j]⟩));refine jI.row (w.heap.size+1+1) 136 _ (jT (jA p.key ⟨6,kR p,p.fG,0,p.b,[M],0⟩) A3 1 c3) (by simp) J.b2 (by rfl) 136 _ _ rfl (by kernel_rfl) (qM (jA p.key ⟨6,kR p,p.fG,0,p.b,[M],0⟩) A3 1 c3) ?_ ?_;(·(intro u w' K j;simp[fH,aC,Is]at j;exact⟨by first |rfl |simp[aF,ψ,j],rfl,by simp[Act.eval,j]⟩));apply jI.is;(·(intro u w' K j;simp[fH,aC,Is]at j;refine fC (by first |rfl |simp[aF,ψ,j]) ?_;intro N H;skip;go_wp2_with(fail);(try simp only[j]at H);refine H _ _ ?_ rfl;first|exact Stp.refl _ _|exact Stp.of_below V _));refine jI.nil (by simp[W2.fit,qy]) ?_;intro u w7 K j;simp only[gQ]at j;have h5:fK w7 (w.heap.size+1) 34 (gB (nJ p)):=j 3 _ rfl;have h6:fK w7 (w.heap.size+1+1) 136 (jT (jA p.key ⟨6,kR p,p.fG,0,p.b,[M],0⟩) A3 1 c3):=j 4 _ rfl;have h7:=j 5 _ rfl;simp only[Is]at h7;clear j;go_wp2_with fail;exact β (lY results69 _ _ _ _ _ _ _ _ _ rfl rfl h7 h5 h6 bD rfl (iD _) bF rfl (kS _ _ _ _)) rfl ⟨A3,c3,by rw[am];rfl,by rw[am];exact YN w7 K,J.below.trans (K.below J.below.size (by intro k o h;simp at h;omega))⟩)
 rotate_left;focus((have aE:(p.state != 2)=true:=by simp[hx]);(have O:IV p=6:=by unfold IV;rw[Υ hx]);(have e1:arV p=gG.none_:=by unfold arV;rw[O];rfl);(have e2:MQ p M=P7.none_:=by unfold MQ;rw[O];rfl);rw[O,e1,e2];clear O e1 e2;go_enter func69,ntmps69;go_wp2_with(first|(with_reducible refine kY gd J rfl _ _ rfl rfl rfl (by kernel_rfl) (by kernel_rfl) (by simp[aK,q32,q64]) ?_;intro aL Y ad ak;replace J:=Y;clear Y ad ak)|(with_reducible refine jv gi J rfl _ _ rfl rfl rfl (by kernel_rfl) (by kernel_rfl) (by simp[aK,q32,q64]) ?_;intro aM Z al ae;replace J:=Z;clear Z al ae)))
 all_goals(exact β (lY results69 _ _ _ _ _ _ _ _ _ rfl rfl rfl J.b1 J.b2 bD rfl (by kernel_rfl) bF rfl (by kernel_rfl)) rfl (yt _ _ _ J.below))
set_option maxRecDepth 8000
theorem ad6(p:gG)(q:P7)(A:Option δ)(n c:Nat)(w:ω)(hn:q.body.length=n)(hB:aq2 w A c q.body)(N:q.body.length<=2000):Γ aj 117 #[gB p,.agg #[q.kind,q.dir,q.fG,q32 q.a,q32 q.b,.slice A n c,q64 q.je]] w (λe w'=> ∃v,e=.returned (.tuple #[v,(jw p q 5:Int)])/\jG (ar5 p q) v w'/\w w'):=by
 unfold ar5;by_cases h:jw p q 5=0;.rw[Υ h,h];have Y:=h;generalize Q:jw p q 5=O at*;subst Y;have J:=λW K=>GZ p q 5 A n c W hn K N;rw[Q]at J;have j:Own w _ [_,_]:=Own.iY w 34 136 (gB p) #[q.kind,q.dir,q.fG,q32 q.a,q32 q.b,.slice A n c,q64 q.je];go_enter func117,ntmps117;go_wp2_with(first|((with_reducible refine gK j ?_ _ rfl rfl _ bD rfl (iD p) ?_);rfl)|((with_reducible refine iQ j ?_ _ rfl rfl _ bF rfl (by kernel_rfl) ?_);rfl)|((with_reducible refine(J _ (hB.below j.below)).mono ?_);rintro e M⟨rfl,H⟩;replace j:=j.grow H;have Z:=j.b1.cell)|((with_reducible refine(TR A n c q.body _ hn (hB.below j.below) (by omega)).mono ?_);rintro e M⟨H,rfl,V,U⟩));go_ret2;exact⟨_,rfl,V.is,j.below.trans (U.mono j.below.size)⟩
 .rw[Ξ h];have J:=λW K=>GZ p q 5 A n c W hn K N;generalize jw p q 5=O at*;have hb:(O != 0)=true:=by grind
  have j:Own w _ [_,_]:=Own.iY w 34 136 (gB p) #[q.kind,q.dir,q.fG,q32 q.a,q32 q.b,.slice A n c,q64 q.je];go_enter func117,ntmps117;go_wp2_with(first|((with_reducible refine gK j ?_ _ rfl rfl _ bD rfl (iD p) ?_);rfl)|((with_reducible refine iQ j ?_ _ rfl rfl _ bF rfl (by kernel_rfl) ?_);rfl)|((with_reducible refine(J _ (hB.below j.below)).mono ?_);rintro e M⟨rfl,H⟩;replace j:=j.grow H;have Z:=j.b1.cell));go_ret2;exact⟨_,rfl,⟨none,0,rfl,aq2.nil _⟩,j.below⟩
theorem amO(bs:List UInt8)(A0:Option δ)(c0:Nat)(w:ω)(hT:Tab w)(hz:0<w.heap.size)(hB:aq2 w A0 c0 bs)(hl:bs.length<=2000):Γ aj 118 #[.slice A0 bs.length c0] w (ajx w (arN bs)):=by
 obtain⟨R,hR⟩:=fD (arN bs);rw[<-hR];have HR:=ah hR;clear hR;have hO:Own w _ [_]:=Own.jD w 196 (aik 0 0 0 0 (.slice none 0 0) (.slice none 0 0));unfold aik at hO;have ej:=hB.below hO.below;have fh:=hT.below hO.below;obtain⟨W0,fj⟩:=fD (w.alloc (.cells gk 196));have a8:=agd ej (by omega);unfold Oa at a8;obtain⟨n,hn⟩:=fD bs.length;rw[<-hn]at a8 |-;have HN:=ah hn;have HT:=ah hT;have HB:=ah hB;have dE:=λW q p s A c (h:xM W q p bs s A c) v=>Wx h v;unfold Ad at dE;obtain⟨s1,dt⟩:=fD (uo bs (0,0) 0);obtain⟨O,d2⟩:=fD (nD bs (0,0) 0);have ea:=ah dt;have bc:=ah d2;have dC:=λW q p A c (h:xM W q p bs (0,0) A c)=>dE W q p (0,0) A c h 0;rw[<-dt,<-d2]at dC;have cB:=λW=>afT O W;unfold Gh Af at cB;obtain⟨f,hf⟩:=fD (nG O);rw[<-hf]at cB;have HF:=ah hf;clear hn fh ej hT hB hO dt d2 hf fj W0;go_enter func118,ntmps118;go_upto_region 4 with(first|(go_at_call 165;(with_reducible refine a8.mono ?_);rintro e w1⟨p,A,c,rfl,hp,ds,hA,V⟩;have cW:=F6.start HT.out hz hl V hp ds hA)|(go_at_call 166;(with_reducible refine(dC _ _ _ A c cW.mr).mono ?_);rintro e Q⟨rfl,aa,aw⟩;have bh:=cW.turn aa aw;have cY:=bh.alloc (λa ha=>aU (hA a ha).2 (aG (by simp) aa.size)) 196 #[.int .i64 O,.int .i64 0,.int .i64 0,.int .i64 0,.slice none 0 0,.slice none 0 0];have fp:=cY.own.b1.cell)|(go_at_call 155;(with_reducible refine(cB _).mono ?_);rintro e Z⟨A1,c1,A3,c3,rfl,ev,Y⟩;have bi:=(cY.grow Y).alloc (λa ha=>aU (hA a ha).2 (aG (aG (by simp) aa.size) (aG (by simp) Y.size))) 240 #[.slice A1 f.1.length c1,.int .i64 f.2.1,.slice A3 f.2.2.length c3];have cu:=bi.mr.blk.cell;have cw:=bi.mr.blk.frozen 1))
 have TM:=ah ev;have HA:=ah hA;have dq:p<w1.heap.size:=ds.blk.lt;have cV: ∀a,A=some a->a.block<Q.heap.size:=λa ha=>aU (hA a ha).2 (aG (by simp) aa.size);have bR:w1.heap.size<=Q.heap.size:=aG (by simp) aa.size;have bN:Hid (w.heap.size<Q.heap.size/\Q.heap.size<Z.heap.size):=ah ⟨by have:=bh.own.b0.lt;omega,by have:=Y.size;simp at this;omega⟩;clear cW bh cY V Y aa aw ds fp ev hA hp;obtain⟨W3,bk⟩:=fD (Z.alloc (.cells #[.slice A1 f.1.length c1,.int .i64 f.2.1,.slice A3 f.2.2.length c3] 240));rw[<-bk]at bi cu cw |-;have c5:kU W3 (Q.heap.size+1) f A1 c1 A3 c3:=by rw[bk];exact kU.below ⟨TM.out.own,TM.out.may,TM.out.q1,TM.out.q3,λa e=>by have:=TM.out.f1 a e;simp at this;omega,λa e=>by have:=TM.out.f3 a e;simp at this;omega⟩ jm
 clear bk;obtain⟨b1,V⟩:=fD (decide (s1.2=0)&& !(PE O).isSome);have az:=ah V;go_cut [37] from 16 (λx W=>x=.bool b1/\W=W3);case first=>
  by_cases h1:s1.2=0;·(have f1:(s1.2==0)=true:=by simpa using h1);(have f2:(!(PE O).isSome)=b1:=by rw[V];simp[h1]);clear V;go_wp2_with fail;go_meet;simp
  ·(have f1:(s1.2==0)=false:=by simpa using h1);(have f2:b1=false:=by rw[V];simp[h1]);clear V;go_wp2_with fail;go_meet;rw[f2];simp
 case rest=>
  obtain⟨rfl,rfl⟩:=hcut;clear V;go_upto_if 37 with fail;go_cut [] from 16 (λW=>F6 w W w1 p bs (sA bs) A c [(w,196,gk),(Q,196,#[.int .i64 O,.int .i64 0,.int .i64 0,.int .i64 0,.slice none 0 0,.slice none 0 0]),(Z,240,#[.slice A1 f.1.length c1,.int .i64 f.2.1,.slice A3 f.2.2.length c3])]/\kU W (Q.heap.size+1) f A1 c1 A3 c3);case first=>cases hb:b1 with|false=>(have a9:sA bs=s1:=by have K:=az.out;rw[hb]at K;unfold sA zL;rw[<-ea.out,<-bc.out,Ξ (λh=>by simp[h.1,h.2]at K)]);go_wp2_with fail;go_meet;rw[a9];exact⟨bi,c5⟩|true=>(have a9:sA bs=(s1.1,4):=by have K:=az.out;rw[hb]at K;simp at K;unfold sA zL;rw[<-ea.out,<-bc.out,Υ ⟨K.1,by simpa using K.2⟩]);go_wp2_with fail;go_meet;rw[a9];exact⟨bi.err 4,c5.put (Nat.lt_succ_of_le bR) _ _⟩
  case rest=>
   obtain⟨H,hF⟩:=hcut;clear c5 bi cu cw dC a8;have dr:w1.heap.size≠0:=H.mr.q0;have d7:w.heap.size≠0:=Nat.ne_of_gt hz;obtain⟨q,hq⟩:=fD w1.heap.size;obtain⟨J,ep⟩:=fD Q.heap.size;obtain⟨bf,eo⟩:=fD Z.heap.size;obtain⟨br,df⟩:=fD w.heap.size;have bj:=bN.out;rw[<-hq]at H bR dr dq |-;rw[<-ep]at H hF bR bj cV |-;rw[<-eo]at H bj |-;rw[<-df]at H bj d7 |-;have bo:=ah df;clear hq ep eo df;have aL:Hid (br<J/\J<bf/\q<=J/\br≠0/\q≠0/\J≠q/\p<q/\ ∀a,A=some a->a.block<J):=ah ⟨bj.1,bj.2,bR,d7,dr,(H.ne _ (by simp;right;left;rfl)).1,dq,cV⟩;have aD:Hid (∀ {W W':ω},kU W (J+1) f A1 c1 A3 c3->Stp [(p,some 1),(q,some 1)] W W'->kU W' (J+1) f A1 c1 A3 c3):=ah (λh hs=>h.I7 hs (λk o M=>by simp at M;omega));clear dq cV bj bR d7 dr bN TM HA Q Z w1;clear dE cB az b1;obtain⟨s2,aa⟩:=fD (uo bs (sA bs) 1);obtain⟨v2,d3⟩:=fD (nD bs (sA bs) 1);have cD:=Wx H.mr 1;unfold Ad at cD;rw[<-aa,<-d3]at cD;have cJ:=ah aa;have cN:=ah d3;clear aa d3;(go_upto_region 7 with(go_at_call 166;(with_reducible refine cD.mono ?_);rintro e Q⟨rfl,aa,aw⟩;replace H:=H.turn aa aw;replace hF:=aD.out hF aa;have cu:=H.mr.blk.cell;have cw:=H.mr.blk.frozen 1));clear aa aw cD;obtain⟨b1,V⟩:=fD (decide (s2.2=0)&&((v2:Int) != (n:Int)));have az:=ah V;go_cut [53] from 16 (λx W=>x=.bool b1/\W=Q);(case first=>by_cases h1:s2.2=0;(·(have f1:(s2.2==0)=true:=by simpa using h1);(have f2:((v2:Int) != (n:Int))=b1:=by rw[V];simp[h1]);clear V;go_wp2_with fail;go_meet;simp);·(have f1:(s2.2==0)=false:=by simpa using h1);(have f2:b1=false:=by rw[V];simp[h1]);clear V;go_wp2_with fail;go_meet;rw[f2];simp);case rest=>
    obtain⟨rfl,rfl⟩:=hcut;clear V;go_upto_if 53 with fail;go_cut [] from 16 (λW=>F6 w W q p bs (sB bs) A c [(br,196,gk),(J,196,#[.int .i64 O,.int .i64 0,.int .i64 0,.int .i64 0,.slice none 0 0,.slice none 0 0]),(bf,240,#[.slice A1 f.1.length c1,.int .i64 f.2.1,.slice A3 f.2.2.length c3])]/\kU W (J+1) f A1 c1 A3 c3);(case first=>cases hb:b1 with|false=>(have a9:sB bs=s2:=by have K:=az.out;rw[hb]at K;unfold sB;rw[<-cJ.out,<-cN.out,<-HN.out,Ξ (λh=>by simp[h.1]at K;omega)]);go_wp2_with fail;go_meet;rw[a9];exact⟨H,hF⟩|true=>(have a9:sB bs=(s2.1,8):=by have K:=az.out;rw[hb]at K;simp at K;unfold sB;rw[<-cJ.out,<-cN.out,<-HN.out,Υ ⟨K.1,by omega⟩]);go_wp2_with fail;go_meet;rw[a9];exact⟨H.err 8,hF.put (Nat.lt_succ_of_le aL.out.2.2.1) _ _⟩);case rest=>
     replace H:=hcut.1;replace hF:=hcut.2;clear hcut cu cw az b1;have cE:=SI H.mr 2;unfold yQ at cE;obtain⟨s3,bX⟩:=fD (sT bs);obtain⟨v3,d4⟩:=fD (nD bs (sB bs) 2);rw[show sN bs (sB bs) 2=sT bs from rfl,<-bX,<-d4]at cE;have bq:=ah bX;have eT:Hid (tOf bs=(v3:Int)):=ah (by rw[d4];rfl);have d1:=λW=>Tn O W;obtain⟨up,MG⟩:=fD (PW O);rw[<-MG]at d1;have aM:Hid (PW (zL bs)=up):=ah (by rw[MG,bc.out];rfl);clear bX d4 MG cJ cN s2;(go_upto_region 11 with(go_at_call 167;(with_reducible refine cE.mono ?_);rintro e Q⟨rfl,aa,aw⟩;replace H:=H.turn aa aw;replace hF:=aD.out hF aa;have bm:=H.own.b1.cell;have an:=H.own.b1.frozen 1));have ae:F6 w _ q p bs s3 A c [_,(J,196,#[.int .i64 O,.int .i64 v3,.int .i64 0,.int .i64 0,.slice none 0 0,.slice none 0 0]),_]:=H.put (L1:= [_]) (by have:=aL.out;omega) 1 (.int .i64 v3);have al:=hF.put (Nat.lt_succ_self J) 1 (.int .i64 v3);clear bm an H hF aa aw cE;obtain⟨W3,bk⟩:=fD (Q.setCell ⟨J,1,none⟩ (.int .i64 v3));rw[<-bk]at ae al |-;clear bk Q;have bm:=ae.own.b1.cell;go_upto_if 64 with (go_at_call 119;(with_reducible refine(d1 _).mono ?_);rintro e Q⟨rfl,a5⟩;replace ae:=ae.grow a5;replace al:=al.below a5;have fk:=ae.own.b1.cell);clear bm a5 W3;have e9:=ae.own.b1.frozen;go_cut [] from 16 (λW=>F6 w W q p bs (sH bs) A c [(br,196,gk),(J,196,#[.int .i64 O,.int .i64 v3,.int .i64 (Kq bs),.int .i64 (Xe bs),.slice none 0 0,.slice none 0 0]),(bf,240,#[.slice A1 f.1.length c1,.int .i64 f.2.1,.slice A3 f.2.2.length c3])]/\kU W (J+1) f A1 c1 A3 c3);case first=>
      (have cP:J≠0:=by have:=aL.out;omega);cases bd:up with
      |false=>(have e1:sH bs=sN bs (sN bs s3 3) 4:=by unfold sH;rw[aM.out,bd,Ξ (by simp),<-bq.out]);(have e2:Kq bs=nD bs s3 3:=by unfold Kq;rw[aM.out,bd,Ξ (by simp),<-bq.out]);(have e3:Xe bs=nD bs (sN bs s3 3) 4:=by unfold Xe;rw[aM.out,bd,Ξ (by simp),<-bq.out]);have ap:=SI ae.mr 3;unfold yQ at ap;obtain⟨v4,ca⟩:=fD (nD bs s3 3);obtain⟨s4,ag⟩:=fD (sN bs s3 3);rw[<-ca]at ap e2;rw[<-ag]at ap e1 e3;obtain⟨v5,d5⟩:=fD (nD bs s4 4);obtain⟨s5,dv⟩:=fD (sN bs s4 4);(have fs: ∀ {W:ω},xM W q p bs s4 A c->Γ aj 167 #[.pointer (some ⟨q,0,none⟩),.int .i64 4] W λe w'=>e=.returned (.int .i64 v5)/\Stp [(p,some 1),(q,some 1)] W w'/\xM w' q p bs s5 A c:=λh=>by have:=SI h 4;unfold yQ at this;rwa [<-d5,<-dv]at this);rw[<-d5]at e3;rw[<-dv]at e1;have E1:=ah e1;have E2:=ah e2;have E3:=ah e3;clear ca ag e1 e2 e3 d5 dv;go_wp2_with(first|(go_at_call 167;(with_reducible refine ap.mono ?_);rintro e w4⟨rfl,ag,dj⟩;have a1:=ae.turn ag dj;have c6:=aD.out al ag;have bm:=a1.own.b1.cell;have an:=a1.own.b1.frozen 2;have ek:F6 w _ q p bs s4 A c [_,(J,196,#[.int .i64 O,.int .i64 v3,.int .i64 v4,.int .i64 0,.slice none 0 0,.slice none 0 0]),_]:=a1.put (L1:= [_]) cP 2 (.int .i64 v4);have c7:=c6.put (Nat.lt_succ_self J) 2 (.int .i64 v4))|(go_at_call 167;(with_reducible refine(fs ek.mr).mono ?_);rintro e fU⟨rfl,fJ,iG⟩;have cX:=ek.turn fJ iG;have fg:=aD.out c7 fJ;have jQ:=cX.own.b1.cell;have uK:=cX.own.b1.frozen 3));go_meet;rw[E1.out,E2.out,E3.out];exact⟨cX.put (L1:= [_]) cP 3 (.int .i64 v5),fg.put (Nat.lt_succ_self J) 3 (.int .i64 v5)⟩
      |true=>(have e1:sH bs=sN bs s3 9:=by unfold sH;rw[aM.out,bd,Υ rfl,<-bq.out]);(have e2:Kq bs=0:=by unfold Kq;rw[aM.out,bd,Υ rfl]);(have e3:Xe bs=nD bs s3 9:=by unfold Xe;rw[aM.out,bd,Υ rfl,<-bq.out]);have ap:=SI ae.mr 9;unfold yQ at ap;obtain⟨v4,ca⟩:=fD (nD bs s3 9);obtain⟨s4,ag⟩:=fD (sN bs s3 9);rw[<-ca]at ap e3;rw[<-ag]at ap e1;have E1:=ah e1;have E2:=ah e2;have E3:=ah e3;clear ca ag e1 e2 e3;go_wp2_with(go_at_call 167;(with_reducible refine ap.mono ?_);rintro e w4⟨rfl,ag,dj⟩;have a1:=ae.turn ag dj;have c6:=aD.out al ag;have bm:=a1.own.b1.cell;have an:=a1.own.b1.frozen 3);go_meet;rw[E1.out,E2.out,E3.out];exact⟨a1.put (L1:= [_]) cP 3 (.int .i64 v4),c6.put (Nat.lt_succ_self J) 3 (.int .i64 v4)⟩
     case rest=>
      replace H:=hcut.1;replace hF:=hcut.2;clear hcut fk e9 ae al d1 aM Q;have cn:=H.own.b2.cell;obtain⟨nf,bO⟩:=fD f.1.length;obtain⟨fx,cx⟩:=fD f.2.1;obtain⟨n3,cA⟩:=fD f.2.2.length;obtain⟨bw,de⟩:=fD (Kq bs);obtain⟨ov,dp⟩:=fD (Xe bs);obtain⟨sh,dx⟩:=fD (sH bs);rw[<-bO,<-cx,<-cA,<-de,<-dp,<-dx]at H;rw[<-bO,<-cx,<-cA]at cn;have ar:=ah bO;have Rk:=ah cx;have cI:=ah cA;have eK:=ah de;have eQ:=ah dp;have cK:=ah dx;(have ee:nf<=7:=by rw[bO,HF.out];exact(AQ O).1);clear bO cx cA de dp dx;go_wp2_with fail;have cc:=ah hF;have af:=ah H;obtain⟨N,hM⟩:=fD wc.heap.size;have HM:=ah hM;go_loopw [77] (λi wr=> ∃k:Nat,i=.int .i64 k/\k<=nf/\ ∃Av cv,F6 w wr q p bs (xX bs (f.1.take k) sh).2 A c [(br,196,gk),(J,196,#[.int .i64 O,.int .i64 v3,.int .i64 bw,.int .i64 ov,.slice Av k cv,.slice none 0 0]),(bf,240,#[.slice A1 nf c1,.int .i64 fx,.slice A3 n3 c3])]/\kU wr (J+1) f A1 c1 A3 c3/\aq1 aq7 3 wr N Av cv (xX bs (f.1.take k) sh).1/\N<=wr.heap.size) (λi _=>nf-(intOf i).toNat);(case atStart=>exact⟨0,rfl,aV _,none,0,by rw[List.take_zero,ac8];exact⟨H,hF,aq1.nil _ _,by omega⟩⟩);case round=>
       obtain⟨k,rfl,M,Av,cv,H,hF,hV,dc⟩:=hrel;by_cases di:k<nf
       ·(have eq:decide ((k:Int)<(nf:Int))=true:=by simpa using di);obtain⟨x,hx⟩:=aq5 ar.out.symm di;obtain⟨g,off,fm,hg,hc⟩:=hF.own.get hx;have a0:=hc 0 (.int .i64 x) rfl;simp only[aq7,Nat.mul_one,bI]at a0;obtain⟨vs,cF⟩:=fD ((xX bs (f.1.take k) sh).1);obtain⟨sk,dy⟩:=fD ((xX bs (f.1.take k) sh).2);rw[<-cF]at hV;rw[<-dy]at H;(have eD:xX bs (f.1.take (k+1)) sh=(vs++ [(nD bs sk x:Int)],sN bs sk x):=by rw[take_snoc' hx,ZR,<-cF,<-dy]);(have eI:vs.length=k:=by rw[cF,Ko,dX];have:=ar.out;omega);have eb:=ah eD;have cg:=ah eI;clear hc hx cF dy eD eI;subst fm;(have fa:J<N:=by rw[HM.out];exact af.out.own.b1.lt);have a7:=aL.out;have cQ:=H.own.b1;have bS:=hV.gJ;(have ef: ¬(J=p\/J=q\/Av.map (·.block)=some J):=λh=>by rcases h with h |h |h;omega;omega;.have:=(bS J h).1;omega);(have ez: ¬(0=p\/0=q\/Av.map (·.block)=some 0):=λh=>by rcases h with h |h |h;(.exact H.mr.p0 h.symm);omega;.have:=(bS 0 h).1;omega);(have eC: ∀k,Av.map (·.block)=some k->k≠p/\k≠q/\k≠0/\ ∀a,A=some a->a.block≠k:=λk h=>by have h1:=(bS k h).1;exact⟨by omega,by omega,by omega,λa ha=>by have:=a7.2.2.2.2.2.2.2 a ha;omega⟩);have ak:=ah eC;have cf:=ah bS;have fw:=ah ez;have cR:=ah ef;have HD:=ah H;have eL:=ah hF;have dm:=H.mr;have dn:=λW (h:xM W q p bs sk A c)=>SI h x;unfold yQ at dn;obtain⟨tv,d0⟩:=fD (nD bs sk x);obtain⟨d8,du⟩:=fD (sN bs sk x);rw[<-d0,<-du]at dn;have fb:Hid (xX bs (f.1.take (k+1)) sh=(vs++ [(tv:Int)],d8)):=ah (by rw[eb.out,d0,du]);clear d0 du eb ef ez eC bS a7 H hF fa;go_wp2_with fail
        apply uM (jV (λk=> k = p ∨ k = q ∨ Av.map (·.block) = some k)) (jV.drew _) (λ_ _ _=> jV.trans) (λi=> jV (λk=> (i = 4 ∧ (k = p ∨ k = q)) ∨ (i = 6 ∧ Av.map (·.block) = some k))) (λi w w' h=> h.mono (λk M=> by rcases M with ⟨_, h | h⟩ | ⟨_, h⟩; exact .inl h; exact .inr (.inl h); exact .inr (.inr h))) (λi W2=> (i = 6 → aq1 aq7 3 W2 N Av cv vs) ∧ (i = 4 → xM W2 q p bs sk A c)) (λ_=> ⟨λ_=> hV.below (aq3 gY 1), λ_=> dm.below (aq3 gY 1)⟩) (λi fv W1 W2 fT hp ht=> ⟨λhi=> (hp.1 hi).ji ht (λg hg j=> by
            have:=(ak.out g hg)
            omega),λhi=>(hp.2 hi).ji ht (λj=>by
            rcases j with⟨h,_⟩ |⟨_,h⟩
            ·
              omega
            ·
              exact(ak.out _ h).2.1 rfl) (λj=>by
            rcases j with⟨h,_⟩ |⟨_,h⟩
            ·
              omega
            ·
              exact(ak.out _ h).1 rfl) (λj=>by
            rcases j with⟨h,_⟩ |⟨_,h⟩
            ·
              omega
            ·
              exact(ak.out _ h).2.2.1 rfl) (λa ha j=>by
            rcases j with⟨h,_⟩ |⟨_,h⟩
            ·
              omega
            ·
              exact(ak.out _ h).2.2.2 a ha rfl)⟩)
        (case lX=>intro u;simp only[bV,aq9,aP,ay,aA,aB,aT,aJ];with_reducible rfl);(case hm=>kernel_rfl);(case hB=>kernel_rfl);(case hA=>kernel_rfl);(case hap=>kernel_rfl);(iterate 4(apply kE.is;·(intro u w' M ai j;clear ai;simp[fH,aC,Is]at j;refine fC ?_ ?_;(.first|rfl|(simp[aF,ψ,j];done));intro bu ad;have e6:=(cQ.ji M cR.out).cell;go_wp2_with fail;(try simp only[j]at ad);refine ad _ _ ?_ rfl;exact jV.refl _ _)));refine kE.word (aow q p bs d8 A c tv) ?_ ?_;(·(intro u w' M ai j;have e7:=ai.2 rfl;clear ai;simp[fH,aC,Is]at j;refine fC ?_ ?_;(.first|rfl|(simp[aF,ψ,j];done));intro bu ad;go_wp2_with(go_at_call 167;(with_reducible refine(dn _ e7).mono ?_);rintro e Z⟨rfl,bX,fo⟩);(try simp only[j]at ad);exact ad _ _ (jV.DW bX (λk o hm=>by simp at hm;exact .inl ⟨by simp,hm.imp And.left And.left⟩)) ⟨rfl,fo⟩));refine kE.word (YH 3 (λk=>k=p\/k=q\/Av.map (·.block)=some k) #[.int .i64 (tv:Int)]) ?_ ?_;(·(intro u w' M ai j;clear ai;simp[fH,aC,Is]at j;obtain⟨q4,_⟩:=j;refine fC ?_ ?_;(.first|rfl|(simp[aF,ψ];done));intro bu ad;go_wp2_with fail;(try simp only[q4]at ad);refine ad _ _ (jV.of_below jm _) ⟨w',rfl,fK.new _ _ _,λhx=>?_⟩;have h1:=M.size;have K:=dm.blk.lt;have h3:=dm.rd.blk.lt;rcases hx with h |h |h;omega;omega;.have:=(cf.out _ h).2;omega));refine kE.word (JL aq7 3 N wr (Av.map (·.block)) (k+1) (vs++ [(tv:Int)])) ?_ ?_;(·(intro u w' M ai j;simp[fH,aC,Is]at j;obtain⟨q1,⟨bv,q2,hB,hn⟩,_⟩:=j;refine fC ?_ ?_;(.first|rfl|(simp[aF,ψ];done));intro bu ad;exact oH abJ (.tmp 82) (.tmp 86) rfl N Av cv vs k (by assumption) cg.out (ai.1 rfl) (some ⟨bv,0,none⟩) 1 [(tv:Int)] 1 (by assumption) rfl (BP hB) (by omega) (by decide) (aG dc M.size) λA3 c3 W3 h1 K h3=>ad _ _ (jV.kJ K (λk M=> .inr ⟨by first |trivial |rfl,M⟩)) ⟨A3,c3,rfl,h1,h3.imp id λe=>⟨_,e,M.size⟩⟩));(iterate 1(apply kE.is;·(intro u w' M ai j;clear ai;simp[fH,aC,Is]at j;refine fC ?_ ?_;(.first|rfl|(simp[aF,ψ,j];done));intro bu ad;have e6:=(cQ.ji M cR.out).cell;go_wp2_with fail;(try simp only[j]at ad);refine ad _ _ ?_ rfl;exact jV.refl _ _)));refine kE.last ?_ ?_;(.refine ZQ (Df:=λi k=>(i=4/\(k=p\/k=q))\/(i=6/\Av.map (·.block)=some k)) ?_;simp only[gQ];refine⟨λ_ _ _ _ _ h _=>h,λ_ _ _ _ _ h _=>h,λ_ _ _ _ _ h _=>h,λ_ _ _ _ _ h _=>h,λi hi v W1 W2 h hg=>⟨h.1,h.2.ji hg ?_ ?_ ?_ ?_⟩,λi hi v W1 W2 h hg=>h.ji (hg.mono ?_),λi hi v W1 W2 h hg=>h.ji (hg.mono (D':=λk=>k=p\/k=q) ?_) ?_,λ_ _ _ _ _ h _=>h,trivial⟩;(.intro j;rcases j with⟨h,_⟩ |⟨_,h⟩;omega;.exact(ak.out _ h).2.1 rfl);(.intro j;rcases j with⟨h,_⟩ |⟨_,h⟩;omega;.exact(ak.out _ h).1 rfl);(.intro j;rcases j with⟨h,_⟩ |⟨_,h⟩;omega;.exact(ak.out _ h).2.2.1 rfl);(.intro a ha j;rcases j with⟨h,_⟩ |⟨_,h⟩;omega;.exact(ak.out _ h).2.2.2 a ha rfl);(.intro k j;rcases j with⟨_,h |h⟩ |⟨_,h⟩;omega;omega;.exact .inr (.inr h));omega;.intro k j;have:=aL.out;(have K:J<N:=by rw[HM.out];exact af.out.own.b1.lt);omega);intro u Q cz _ j;simp only[gQ]at j;have d6:=j 4 _ rfl;obtain⟨ax,aR,hu,eA,fL⟩:=j 6 _ rfl;have h7:=j 7 _ rfl;simp only[Is]at h7;clear j;refine⟨rfl,?_⟩;intro bu ad;have a5:=cQ.ji cz cR.out;have bm:=a5.cell;have an:=a5.frozen 4;simp only[hu,h7,d6.1]at ad |-;clear hu h7;(have el:br<N/\J<N/\bf<N/\w.heap.size<=N:=by rw[HM.out];exact⟨af.out.own.b0.lt,af.out.own.b1.lt,af.out.own.b2.lt,af.out.own.below.size⟩);have a7:=aL.out
        have bh := HD.out.ji (D := λk=> k = p ∨ k = q ∨ Av.map (·.block) = some k) cz d6.2 (λx hx j=> by
          have h1:=HD.out.ne x hx
          have K:x.1<N:=by
            simp only[bJ,dH,or_false]at hx
            rcases hx with rfl |rfl |rfl
            ·
              omega
            ·
              omega
            omega
          rcases j with h |h |h
          ·
            omega
          ·
            omega
          ·
            have:=(cf.out _ h).1;omega) (λk j=>by
          rcases j with h |h |h
          ·
            rw[h];exact HD.out.lo.2
          ·
            rw[h];exact HD.out.lo.1
          ·
            have:=(cf.out _ h).1;omega)
        have ae:F6 w (Q.setCell ⟨J,4,none⟩ (.slice ax (k+1) aR)) q p bs d8 A c [_,(J,196,#[.int .i64 O,.int .i64 v3,.int .i64 bw,.int .i64 ov,.slice ax (k+1) aR,.slice none 0 0]),_]:=bh.put (L1:= [_]) (by omega) 4 (.slice ax (k+1) aR);have al:=(cc.out.ji eL.out cz (λk j=>by rcases j with h |h |h;omega;omega;.right;rw[<-HM.out];exact(cf.out _ h).1)).put (Nat.lt_succ_self J) 4 (.slice ax (k+1) aR);have Gq:=eA.far (g:=J) el.2.1 (w':=Q.setCell ⟨J,4,none⟩ (.slice ax (k+1) aR)) (λk M=>aN Q ⟨J,4,none⟩ _ k M);have ey:N<=(Q.setCell ⟨J,4,none⟩ (.slice ax (k+1) aR)).heap.size:=aG dc (aG cz.size (by simp));have e5:=ah (And.intro ae (And.intro al (And.intro Gq ey)));clear el a7 bh ae al Gq ey eA d6 a5;go_wp2_with fail;go_roundw;(case rel=>exact⟨k+1,by go_num,by omega,ax,aR,by rw[fb.out];exact e5.out⟩);case measure=>simp[intOf];omega
       ·(obtain rfl:k=nf:=by omega);(have eq:decide ((k:Int)<(k:Int))=false:=by simp);have en:f.1.take k=f.1:=aY (by rw[ar.out];omega);rw[en]at H hV;clear en di;have V:=H.mr.blk.cell;obtain⟨at0,dT⟩:=fD ((xX bs f.1 sh).2.1);obtain⟨er,cS⟩:=fD ((xX bs f.1 sh).2.2);obtain⟨vs,ch⟩:=fD ((xX bs f.1 sh).1);(have ec:(xX bs f.1 sh).2=(at0,er):=by rw[dT,cS]);rw[ec]at H V;(have ed:vs.length=k:=by rw[ch,Ko];exact ar.out.symm);rw[<-ch]at hV;have aE:Hid (wM bs=(vs,(at0,er))):=ah (by unfold wM;rw[show nG (zL bs)=f by rw[HF.out,bc.out];rfl,<-cK.out,dT,cS,ch]);clear dT cS ch ec;by_cases bE:er=0;(·(have e0:(er != 0)=false:=by simpa using bE);have a8:=H.mr.rd;have cg:Hid (vs.length=k):=ah ed;have eR:Hid (uN bs at0 at0 []):=ah (uN.start H.mr.inn);obtain⟨M2,c8⟩:=fD wr.heap.size;have eM:=ah c8;have hO:=H.own;have eV:Hid (∀g,Av.map (·.block)=some g->N<=g/\g<M2):=ah (by rw[c8];exact hV.gJ);have cd:Hid (N<=M2):=ah (by omega);have Xj:Hid (br<N/\J<N/\bf<N/\w.heap.size<=N):=ah (by rw[HM.out];exact⟨af.out.own.b0.lt,af.out.own.b1.lt,af.out.own.b2.lt,af.out.own.below.size⟩);(have fX:n<=2000:=by rw[HN.out];exact hl);have cH:=ah bE;clear c8 ee eq bE dc H aD af ed;go_wp2_with(go_at_call 168;(with_reducible refine(ZB a8).mono ?_);rintro e Z⟨rfl,fu⟩;obtain rfl:=fu.symm);clear V a8 e0;go_loopw [12] (λi wl=> ∃(at_:Nat) (acc:List Pk) (m:Nat) (Ap:Option δ) (cp:Nat),i=.int .i64 at_/\acc.length=m/\uN bs at0 at_ acc/\Own w wl [(br,196,gk),(J,196,#[.int .i64 O,.int .i64 v3,.int .i64 bw,.int .i64 ov,.slice Av k cv,.slice Ap m cp]),(bf,240,#[.slice A1 k c1,.int .i64 fx,.slice A3 n3 c3])]/\kU wl (J+1) f A1 c1 A3 c3/\aq1 aq7 3 wl N Av cv vs/\sU wl M2 Ap cp acc/\M2<=wl.heap.size) (λi _=>8*bs.length-(intOf i).toNat);(case atStart=>exact⟨at0,[],0,none,0,rfl,rfl,eR.out,hO,hF,hV,sU.nil _ _,by rw[eM.out];omega⟩);case round=>clear hO hF hV;obtain⟨at_,acc,m,Ap,cp,rfl,dl,hP,hO,hF,hV,hK,cT⟩:=hrel;(have fR:at_<=8*n:=by rw[HN.out];exact hP.inn);(have fN:8*m+at0<=at_:=by rw[<-dl];exact hP.len);have bb:=ah dl;have HP:=ah hP;have ZY:=ah hF;have bA:=HT.out.below hO.below;have bx:=HB.out.below hO.below;clear dl hP hF;by_cases h8:8<=8*n-at_;(·(have fd:decide ((8:Int)<=8*(n:Int)-(at_:Int))=true:=by simp;omega);have H8:=ah h8;have av:=λW (h1:Tab W) (K:aq2 W A0 c0 bs)=>af6 bs A0 c0 at_ W h1 K hl HP.out.inn;unfold xU at av;cases hg:DU bs at_ with|error ei=>rw[hg,<-HN.out]at av;simp only at av;have a7:=YJ hg;(have e2:(ei != 0)=true:=by simpa using a7);have am:Hid (R=.error ei):=ah (by rw[HR.out];unfold arN;rw[aE.out,Ξ (λh=>h cH.out),show xY bs bs.length (vs,(at0,er)).2.1 []=_ from HP.out.bad (by rw[<-HN.out];omega) hg]);clear hg h8 a7 ar Rk cI cK cc ZY hK hV cn;go_wp2_with(go_at_call 169;(with_reducible refine(av _ bA bx).mono ?_);rintro e Z⟨Y,rfl⟩;have U:=(hO.grow Y).grow ((aH Z Z).alloc ig (.cells gH 198));have ci:=U.b0.cell;have an:=U.b0.frozen);have ac:=ac9 U.b0 (bZ bo.out.symm) U.below (.int .i64 0) (.int .i64 0) (.int .i64 0) (.int .i64 0) (.slice none 0 0) (.slice none 0 0);refine β (gU results118 _ _ _ _ _ _ rfl rfl ac.1 underlying196 rfl (by kernel_rfl)) rfl ?_;rw[am.out];exact⟨ac.2,rfl⟩|ok pe=>obtain⟨pk,fe⟩:=pe;rw[hg,<-HN.out]at av;simp only at av;obtain⟨xs,bn,ba⟩:=hK;(have eJ:xs.length=m:=by rw[ba.1];exact bb.out);have eE:=HP.out.step (by rw[<-HN.out];omega) hg;have eB:=(N8 hg HP.out.inn).2.2.2.2;obtain⟨aq,cU⟩:=fD pk.id;obtain⟨pn,cC⟩:=fD pk.v.length;rw[<-cU,<-cC]at av;rw[<-cC]at eB;have eS:=ah cU;have d9:=ah cC;have cM:=ah eE;have eZ:=ah ba;have eW:=ah eJ;have e2:((0:Int) != 0)=false:=rfl;have cm:Hid (∀g,Ap.map (·.block)=some g->M2<=g):=ah (λg e=>(bn.gJ g e).1);clear hg h8 cU cC eE ba eJ cn;go_wp2_with(first|(go_at_call 169;(with_reducible refine(av _ bA bx).mono ?_);rintro e Z⟨Y,Ak,rfl,fq,bN⟩;have au:=Y.alloc Y.size (.cells #[.int .i64 aq,.slice Ak pn pn] 198);have a6:=au.alloc au.size (.cells #[.int .i64 aq,.slice Ak pn pn] 198);have fU:=(hO.grow au).b1.cell;have fJ:=(fK.new Z 198 #[.int .i64 aq,.slice Ak pn pn]).cell;have ct:=Ob (fK.new (Z.alloc (.cells #[.int .i64 aq,.slice Ak pn pn] 198)) 198 #[.int .i64 aq,.slice Ak pn pn]);rw[show(Z.alloc (.cells #[.int .i64 aq,.slice Ak pn pn] 198)).heap.size=Z.heap.size+1 by simp]at ct)|(at_builtin;refine gW al3 rfl _ _ rfl M2 Ap cp xs m rfl eW.out (bn.below a6) (some ⟨_,0,none⟩) 1 [⟨aq,Ak,pn,pn⟩] 1 rfl rfl ct (by omega) (by decide) (aG cT a6.size) ?_;intro A5 eh w5 uq ew ff;have cy:=jV.kJ (D:=λk=>Ap.map (·.block)=some k) ew (λk M=>M);have lW:=(hO.grow a6).ji cy (λx hx j=>by have h1:=cm.out _ j;have K:=Xj.out;have h3:=cd.out;simp only[bJ,dH,or_false]at hx;rcases hx with rfl |rfl |rfl <;> simp only at h1 <;> omega) (λk j=>by have h1:=cm.out _ j;have K:=Xj.out;have h3:=cd.out;omega);have fI:=lW.b1.cell;have fy:=lW.b1.frozen 5));go_roundw;(case rel=>have fn:=Xj.out;have fW:=cd.out;have c7:=cc.out.ji (ZY.out.below a6) cy (λk j=> .inr (by have h1:=cm.out _ j;omega));have fi:=(hV.below a6).ji cy (λg e j=>by have h1:=eV.out g e;have K:=cm.out _ j;omega);have IJ:fE aq7 _ Ak pk.v:=fq.below (((aH Z Z).alloc ig (.cells #[.int .i64 aq,.slice Ak pn pn] 198)).alloc (by simp) (.cells #[.int .i64 aq,.slice Ak pn pn] 198));have ex:=(eZ.out.ji (jV.of_below a6 (λ_=>False)) (λ_ h=>h.elim)).snoc (p:=pk) ew ff IJ (λa e=>⟨aG cT (bN a e),λh=>by have h1:=(bn.gJ _ h).2;have K:=bN a e;omega⟩) (by rw[<-d9.out];exact aG eB (by decide));rw[<-eS.out,<-d9.out]at ex;refine⟨fe,acc++ [pk],m+1,A5,eh,rfl,by simp[bb.out],cM.out.1,Own.TP (L1:= [_]) lW 5 (.slice A5 (m+1) eh),c7.put (Nat.lt_succ_self J) 5 _,fi.far (g:=J) fn.2.1 (λk M=>aN w5 ⟨J,5,none⟩ _ k M),⟨_,uq.far (g:=J) (by omega) (λk M=>aN w5 ⟨J,5,none⟩ _ k M),ex.ji (jV.DW (D:=λk=>k=J) (Stp.cell J 5 _) (λk o hm=>by simp at hm;omega)) (λk M=> .inl (by omega))⟩,?_⟩;exact aG (aG cT (aG a6.size cy.size)) (by simp));case measure=>have h1:=cM.out.2;have K:=cM.out.1.inn;simp[intOf];omega);·(have fd:decide ((8:Int)<=8*(n:Int)-(at_:Int))=false:=by simp;omega);have eg:=HP.out.done (by rw[<-HN.out];exact h8);(have cG:(wM bs).1=vs:=by rw[aE.out]);(have c9:oC (Kr bs acc) ⟨Av,cv,Ap,cp⟩= #[.int .i64 O,.int .i64 v3,.int .i64 bw,.int .i64 ov,.slice Av k cv,.slice Ap m cp]:=by unfold oC Kr;simp only;rw[cG,cg.out,bb.out,eT.out,<-eK.out,<-eQ.out,show zL bs=(O:Int) by rw[bc.out];rfl]);(have dz:J9 (Kr bs acc)=(at_:Int):=by have h1:=agf (bs:=bs) (by rw[aE.out];exact cH.out);rw[aE.out]at h1;show arU (zL bs)+oP acc=_;rw[<-h1,HP.out.wid];simp only;omega);(have h0:0<bs.length:=by have h1:J9 (Kr bs acc)=fQ 0+fQ 1+yZ (rG (zL bs))+oP acc:=rfl;have K:=J8 (rG (zL bs));(have h3:fQ 0=8:=by decide);have h4:=lq 1;have h5:=(Ib acc (λp hp=>aG (HP.out.vl p hp) (by decide))).1;have h6:=HP.out.inn;omega);(have Qw:k<=7:=by rw[ar.out,HF.out];exact(AQ O).1);(have fl:m<=cp:=by obtain⟨xs,ho,hr⟩:=hK;rw[<-bb.out,<-hr.1];exact ho.cap.1);have db:uP wr N (Kr bs acc) ⟨Av,cv,Ap,cp⟩:=⟨by show aq1 aq7 3 wr N Av cv (wM bs).1;rw[cG];exact hV,hK.base cd.out,by show(wM bs).1.length<=20;rw[cG,cg.out];omega,by show acc.length<=2000;rw[bb.out];omega,λp hp=>HP.out.vl p hp⟩;have da:=db.is_;have eO:=ah db;have bB:=λW h1 K h3=>agc bs A0 c0 (Kr bs acc) ⟨Av,cv,Ap,cp⟩ W h1 K h3 hl h0 (by rw[dz];have:=HP.out.inn;omega) (by rw[dz,<-HN.out];omega);rw[c9,<-HN.out]at bB;obtain⟨mb,dk⟩:=fD (zf bs (Kr bs acc));rw[<-dk]at bB;obtain⟨xs,bn,ba⟩:=hK;have bL:=λW h1 K=>acV f A1 c1 A3 c3 Ap m cp xs W h1 (by rw[HF.out];exact aG (AQ O).2 (by decide)) K (by rw[ba.1];exact bb.out) (by omega) fl;unfold Af at bL;rw[<-ar.out,<-Rk.out,<-cI.out,ba.ids]at bL;obtain⟨ft,dg⟩:=fD (Ia f (acc.map (·.id)));rw[<-dg]at bL;have dd:Hid (R=if mb=false then .error 8 else if ft=false then .error 50 else .ok (Kr bs acc)):=ah (by rw[HR.out,dk,dg,HF.out];unfold arN;rw[aE.out,Ξ (λh=>h cH.out),show xY bs bs.length (vs,(at0,er)).2.1 []=_ from eg,show nG (zL bs)=nG O by rw[bc.out];rfl]);have CZ:=bn.rows;have eN:=ah c9;clear dk dg eg cG c9 dz h0 db ba hV h8 bn;have fS:=hO.b1.cell;cases mb with|false=>have am:Hid (R=.error 8):=ah (by assumption);clear dd;go_wp2_with(go_at_call 170;(with_reducible refine(bB _ bA bx da).mono ?_);rintro e Z⟨rfl,Y⟩;have U:=hO.grow Y;have ci:=U.b0.cell;have an:=U.b0.frozen);have ac:=ac9 U.b0 (bZ bo.out.symm) U.below (.int .i64 0) (.int .i64 0) (.int .i64 0) (.int .i64 0) (.slice none 0 0) (.slice none 0 0);refine β (gU results118 _ _ _ _ _ _ rfl rfl ac.1 underlying196 rfl (by kernel_rfl)) rfl ?_;rw[am.out];exact⟨ac.2,rfl⟩|true=>cases ft with|false=>have am:Hid (R=.error 50):=ah (by assumption);clear dd;go_wp2_with(first|(go_at_call 170;(with_reducible refine(bB _ bA bx da).mono ?_);rintro e Z⟨rfl,Y⟩;have a4:=hO.grow Y;have fU:=a4.b1.cell;have fJ:=a4.b2.cell)|(go_at_call 162;(with_reducible refine(bL _ (ZY.out.below Y).may (CZ.below Y)).mono ?_);rintro e w4⟨rfl,au⟩;have U:=a4.grow au;have ci:=U.b0.cell;have an:=U.b0.frozen));have ac:=ac9 U.b0 (bZ bo.out.symm) U.below (.int .i64 0) (.int .i64 0) (.int .i64 0) (.int .i64 0) (.slice none 0 0) (.slice none 0 0);refine β (gU results118 _ _ _ _ _ _ rfl rfl ac.1 underlying196 rfl (by kernel_rfl)) rfl ?_;rw[am.out];exact⟨ac.2,rfl⟩|true=>have am:Hid (R=.ok (Kr bs acc)):=ah (by assumption);clear dd;go_wp2_with(first|(go_at_call 170;(with_reducible refine(bB _ bA bx da).mono ?_);rintro e Z⟨rfl,Y⟩;have a4:=hO.grow Y;have fU:=a4.b1.cell;have fJ:=a4.b2.cell)|(go_at_call 162;(with_reducible refine(bL _ (ZY.out.below Y).may (CZ.below Y)).mono ?_);rintro e w4⟨rfl,au⟩;have U:=a4.grow au;have fU:=U.b1.cell;have ci:=U.b0.cell;have an:=U.b0.frozen));have ac:=ac9 U.b0 (bZ bo.out.symm) U.below (.int .i64 O) (.int .i64 v3) (.int .i64 bw) (.int .i64 ov) (.slice Av k cv) (.slice Ap m cp);refine β (gU results118 _ _ _ _ _ _ rfl rfl ac.1 underlying196 rfl (by kernel_rfl)) rfl ?_;rw[am.out];refine⟨ac.2,⟨Av,cv,Ap,cp⟩,by rw[eN.out];rfl,?_⟩;exact(((eO.out.ji (jV.of_below Y (λ_=>False)) (λ_ h=>h.elim)).ji (jV.of_below au (λ_=>False)) (λ_ h=>h.elim)).ji (aox w4 br _ _ _ _ _ _) (λfv hj=> .inl (by have:=Xj.out.1;omega))).base Xj.out.2.2.2);·(have e0:(er != 0)=true:=by simpa using bE);have am:Hid (R=.error er):=ah (by rw[HR.out];unfold arN;rw[aE.out,Υ bE]);have hO:=H.own;have an:=H.own.b0.frozen;have ci:=H.own.b0.cell;have e8:br≠q:=(H.ne _ (by simp;left;rfl)).1;have fz:q≠br:=e8.symm;simp only at V;clear ar Rk cI cK ee aD af cc cn HM aE aL;go_wp2_with fail;go_region;go_wp2_with fail;have ac:=ac9 H.own.b0 (bZ bo.out.symm) H.own.below (.int .i64 0) (.int .i64 0) (.int .i64 0) (.int .i64 0) (.slice none 0 0) (.slice none 0 0);obtain⟨WW,em⟩:=fD ((((((wr.setCell ⟨br,0,none⟩ (.int .i64 0)).setCell ⟨br,1,none⟩ (.int .i64 0)).setCell ⟨br,2,none⟩ (.int .i64 0)).setCell ⟨br,3,none⟩ (.int .i64 0)).setCell ⟨br,4,none⟩ (.slice none 0 0)).setCell ⟨br,5,none⟩ (.slice none 0 0));rw[<-em]at ac |-;clear em;have et:WW WW.drew:=aq3 gY 1;have ct:=ac.1.below et ac.1.lt;refine β (gU results118 _ _ _ _ _ _ rfl rfl ct underlying196 rfl (by kernel_rfl)) rfl ?_;rw[am.out];exact⟨ac.2.trans (et.mono ac.2.size),rfl⟩
section
set_option maxRecDepth 8000
attribute [local go_sem high] Rz
def Y2 (kd dd td:Int) (X je:BitVec 64) (r:List UInt8):P7:=if kd=1 then⟨1,dd,td,X.setWidth 32,0,[],je⟩ else if kd=2\/kd=3 then⟨kd,dd,td,X.setWidth 32,bT 32 (num (r.take (min 4 r.length))),[],je⟩ else if kd=5 then⟨5,dd,td,0,X.setWidth 32,r.drop (min 2 r.length),je⟩ else if kd=6 then⟨6,dd,td,0,X.setWidth 32,r,je⟩ else⟨kd,dd,td,0,0,[],je⟩
def ape (w:ω) (g b off c:Nat) (bs:List UInt8) (kd dd td:Int) (X:BitVec 64) (v:Θ) (W:ω):Prop:= ∃A n k r je,v=.slice A n k/\wQ w W g #[.int .i64 kd,.int .i64 dd,.int .i64 td,.int .u32 0,.int .u32 0,.slice none 0 0,q64 je]/\r.length=n/\n<=bs.length/\(∀W,aq2 W (some ⟨b,off,none⟩) c bs->aq2 W A k r)/\Bf bs=some (Y2 kd dd td X je r)
def apf (w:ω) (g:Nat) (bs:List UInt8) (W:ω):Prop:= ∃kd dd td a b' body je A k,Bf bs=some ⟨kd,dd,td,a,b',body,je⟩/\wQ w W g #[.int .i64 kd,.int .i64 dd,.int .i64 td,q32 a,q32 b',.slice A body.length k,q64 je]/\fV (g+1) body (.slice A body.length k) W/\body.length<=2000
theorem aef(b off c:Nat)(bs:List UInt8)(w:ω)(hB:aq2 w (some ⟨b,off,none⟩) c bs)(cI:bs.length<=2000)(h8:8<=bs.length):Γ aj 59 #[.slice (some ⟨b,off,none⟩) bs.length c] w λe w'=> ∃v,e=.returned (.tuple #[v,.int .i64 (if(vY bs).isSome then 0 else 8)])/\Ou w ((vY bs).getD P7.none_) v w'/\w w':=by
 have hl: ¬((bs.length:Int)<8):=by omega
 obtain⟨b',cS,e0,cB,bh⟩:=hB.at_ (k:=0) (by omega);simp only[aO,cZ,and_true]at e0;obtain⟨rfl,rfl⟩:=e0;rw[bI]at bh;obtain⟨er,aa⟩: ∃er:Int,er=if(vY bs).isSome then 0 else 8:=⟨_,rfl⟩
 obtain⟨q,hq⟩:=fD ((vY bs).getD P7.none_);rw[<-aa,<-hq];replace aa:=ah aa;replace hq:=ah hq;go_enter func59,ntmps59;go_wp2_with fail;obtain⟨w1,ax⟩:=fD (w.alloc (.cells gi 136));rw[<-ax];have cd:fK w1 w 136 gi:=by rw[ax];exact fK.new _ _ _
 have GX:w w1:=by rw[ax];exact gY.alloc ig _
 have cR:w1.heap.size=w.heap.size+1:=by rw[ax];simp
 have bA:=hB.below GX;have bL:w1.cell? ⟨b,off,none⟩=some (q8 (nth bs 0)):=(GX.cell (p:=⟨b,off,none⟩) cB).trans bh;clear ax;have av:=hB.cap;obtain⟨T,hT⟩:=fD (bT 64 (num ((bs.drop 1).take 3)));have ar:=aoQ ((bs.drop 1).take 3) (by simp;omega);rw[<-hT]at ar;have cy:T.toNat<9223372036854775808:=by omega
 have bn:=λW (h:aq2 W (some ⟨b,off,none⟩) c bs)=>FM _ 3 (c-1) _ W (by simp;omega) (h.cut 1 3 (by omega) (by omega)) (by simp;omega);rw[<-hT]at bn;obtain⟨b0,au⟩:=fD (nth bs 0);rw[<-au]at bL;replace hT:=ah hT;replace ar:=ah ar;replace au:=ah au;apply mZ;case lX=>intro u;simp only[bV,aq9,aP,ay,aA,aB,aT,aJ];rfl
 case hm=>kernel_rfl
 case hB=>kernel_rfl
 case hA=>kernel_rfl
 case hap=>kernel_rfl
 iterate 10(apply lI.is;·(intro u w' U J;simp[fH,aC,Is]at J;refine fF (by first |rfl |simp[aF,ψ,J]) ?_;intro am Q;obtain⟨a5,_⟩:=qG U;go_wp2_with(fail);(try simp only[J]at Q);refine Q _ _ ?_ rfl;first|exact aH _ _|exact hb3))
 iterate 2(apply lI.is;·(intro u w' U J;simp[fH,aC,Is]at J;refine fF (by first |rfl |simp[aF,ψ,J]) ?_;intro am Q;obtain⟨a5,_⟩:=qG U;go_wp2_with(fail);(try simp only[J]at Q);refine Q _ _ ?_ rfl;first|exact aH _ _|exact hb3))
 apply lI.is;·(intro u w' U J;simp[fH,aC,Is]at J;refine fF (by first |rfl |simp[aF,ψ,J]) ?_;intro am Q;obtain⟨a5,_⟩:=qG U;go_wp2_with((go_at_call 104;(with_reducible refine(bn _ (bA.below U)).mono ?_);rintro e wn⟨rfl,rfl⟩));(try simp only[J]at Q);refine Q _ _ ?_ rfl;first|exact aH _ _|exact hb3)
 iterate 2(apply lI.is;·(intro u w' U J;simp[fH,aC,Is]at J;refine fF (by first |rfl |simp[aF,ψ,J]) ?_;intro am Q;obtain⟨a5,_⟩:=qG U;go_wp2_with(fail);(try simp only[J]at Q);refine Q _ _ ?_ rfl;first|exact aH _ _|exact hb3))
 refine lI.word (Ov w1) (λ_ _ _ h hb=>h.grow hb) ?_ ?_;·(intro u w' U J;simp[fH,aC,Is]at J;refine fF (by first |rfl |simp[aF,ψ,J]) ?_;intro am Q;obtain⟨a5,_⟩:=qG U;skip;go_wp2_with(fail);skip;exact Q _ _ jm ⟨_,rfl,U.size,fK.new _ _ _⟩)
 refine lI.last ?_;intro u w2 U J;simp only[gQ]at J;obtain⟨g,hu,cD,bk⟩:=J 15 _ rfl;have hv:=J 14 _ rfl;simp only[Is]at hv;clear J;refine⟨rfl,?_⟩;intro am Q;refine η 136 (.tmp 4) (.tmp 27) rfl g #[.int .i64 ((b0.toNat:Int) / 2),.int .i64 ((b0.toNat:Int) % 2),.int .i64 T.toNat,.int .u32 0,.int .u32 0,.slice none 0 0,.int .u64 0] hu hv 136 _ bk (by kernel_rfl) rfl (by simp[aK]) (Q _ _ ?_);obtain⟨w3,a9⟩:=fD (w2.setRow g #[.int .i64 ((b0.toNat:Int) / 2),.int .i64 ((b0.toNat:Int) % 2),.int .i64 T.toNat,.int .u32 0,.int .u32 0,.slice none 0 0,.int .u64 0]);rw[<-a9];have ak:fK w3 g 136 #[.int .i64 ((b0.toNat:Int) / 2),.int .i64 ((b0.toNat:Int) % 2),.int .i64 T.toNat,.int .u32 0,.int .u32 0,.slice none 0 0,.int .u64 0]:=by rw[a9];exact bk.row _
 have ba:w1 w3:=by rw[a9];exact jk U cD _
 clear a9 bk;have az:w w3:=GX.trans (ba.mono (by omega));have bo:=cd.below ba (by omega);have aD:=hB.below az;obtain⟨X,hX⟩:=fD (bT 64 (num ((bs.drop 4).take 4)));have ad:=λW (h:aq2 W (some ⟨b,off,none⟩) c bs)=>FM _ 4 (c-4) _ W (by simp;omega) (h.cut 4 4 (by omega) (by omega)) (by simp;omega);rw[<-hX]at ad;replace hX:=ah hX;have cC:w.heap.size<g:=by omega
 have S3:wQ w w3 g _:=⟨ak,bo,az,cC⟩;clear bn bh bL hv cy;generalize aL:(b0.toNat:Int) / 2=j at*;generalize aE:(b0.toNat:Int) % 2=K at*;generalize aM:(T.toNat:Int)=M at*;have N:=adU bs h8 b0 au.out T X ar.out.1 hX.out j K M aL aE aM;replace N:=ah N;replace aL:=ah aL;replace aE:=ah aE;replace aM:=ah aM;obtain⟨R,hR⟩:=fD (qQ (some ⟨b,off,none⟩) 8 c);obtain⟨H,cn⟩: ∃H,H+8=bs.length:=⟨bs.length-8,by omega⟩;have cE: ∀W,(Instr.slice 45 (.slice (some ⟨b,off,none⟩) bs.length c) (some (.int .i64 8)) none none).run aj W=.ok (.slice R H (c-8)) W:=λW=>by rw[tJ _ _ _ _ _ _ (by omega) (by omega),hR,<-cn];simp
 have aq:=λW (h:aq2 W (some ⟨b,off,none⟩) c bs)=>h.cutFrom 8 h8;rw[<-hR]at aq;replace hR:=ah hR;have bO:=ak.cell;have bX:=ak.frozen;have ai:(bs.drop 8).length=H:=by simp;omega
 by_cases ct:j≠1/\H<8
 .obtain⟨al,hs⟩:=ct;have O:vY bs=none:=by have:=N.out;rw[ai,Ξ al,Υ hs]at this;simp[vY,this]
  replace aa:er=8:=by rw[aa.out,O];rfl
  replace hq:q=P7.none_:=by rw[hq.out,O];rfl
  replace an:=ah aa;replace aw:=ah hq;clear aa hq;have cF:(H:Int)<8:=by omega
  go_wp2_with(first|(go_at_call 104;(with_reducible refine(ad _ aD).mono ?_);rintro e wn⟨rfl,rfl⟩)|(with_reducible refine F7 rfl 136 (.tmp 2) (.tmp 40) rfl w gi rfl rfl 136 _ bo (by kernel_rfl) rfl (by simp[aK]) w w az ig ?_;intro w7 Qg IU cu Gy));have Oe:=Qg.cell;refine β (v:=.tuple #[.agg gi,.int .i64 8]) (by simp[results,results59,go_sem,Oe]) rfl ⟨_,by rw[an.out],by rw[aw.out];exact⟨_,rfl,fV.nil⟩,IU⟩
 go_upto_if 36 with (go_at_call 104;(with_reducible refine(ad _ aD).mono ?_);rintro e wn⟨rfl,hw⟩;obtain rfl:=hw.symm);go_cut [3,6] from 34 (λe v W=>e=.int .i64 0/\ape w g b off c bs j K M X v W);case first=>
  by_cases al:j=1;.subst al;go_wp2_with fail;go_meet;exact⟨rfl,_,_,_,bs.drop 8,0,rfl,S3,ai,by omega,aq,by rw[N.out];rfl⟩
  ·skip;replace N:=ah (N.out.trans (Ξ al));(have ai:(bs.drop 8).length=H:=by simp;omega);have bO:=ak.cell;have bX:=ak.frozen;replace N:=ah (N.out.trans (Ξ (by rw[ai];omega)));rw[ai]at N;(have cF: ¬((H:Int)<8):=by omega);obtain⟨n0,cJ⟩: ∃n0,n0+8=H:=⟨H-8,by omega⟩;obtain⟨cw,hY⟩:=fD (bT 64 (num ((bs.drop 8).drop (H-8))));rw[<-hY]at N;obtain⟨bu,hM⟩:=fD (qQ R (H-8) (c-8));obtain⟨cM,a4⟩:=fD (c-8-(H-8));(have cQ: ∀W,(Instr.slice 45 (.slice R H (c-8)) (some (.int .i64 ((H:Int)-8))) none none).run aj W=.ok (.slice bu 8 cM) W:=λW=>by rw[tJ _ _ _ _ _ _ (by omega) (by omega),show((H:Int)-8).toNat=H-8 by omega,<-hM,<-a4,show H-(H-8)=8 by omega]);(have cN: ∀W,(Instr.slice 45 (.slice R H (c-8)) none (some (.int .i64 ((H:Int)-8))) none).run aj W=.ok (.slice R n0 (c-8)) W:=λW=>by rw[CX _ _ _ _ _ _ (by omega) (by omega),show((H:Int)-8).toNat=n0 by omega]);have ci:=λW (h:aq2 W (some ⟨b,off,none⟩) c bs)=>FM bu 8 cM ((bs.drop 8).drop (H-8)) W (by simp;omega) (by rw[hM,a4];exact(aq W h).cutFrom (H-8) (by omega)) (by simp;omega);rw[<-hY]at ci;have ac:=λW (h:aq2 W (some ⟨b,off,none⟩) c bs)=>(aq W h).aif (H-8) (by omega);(have a7:((bs.drop 8).take (H-8)).length=n0:=by simp;omega);replace hM:=ah hM;replace a4:=ah a4;replace hY:=ah hY;generalize hr:(bs.drop 8).take (H-8)=r at N ac a7;replace hr:=ah hr;rw[a7]at N;(have e1:(j != 1)=true:=by simpa using al);go_wp2_with(go_at_call 104;(with_reducible refine(ci _ aD).mono ?_);rintro e wn⟨rfl,rfl⟩);go_meet;exact⟨rfl,_,_,_,r,cw,rfl,S3.set 6 _,a7,by omega,ac,by rw[N.out];unfold Y2;rw[Ξ al,a7];(repeat' split) <;> rfl⟩
 case rest=>
  obtain⟨rfl,A,n,k,r,je,rfl,S,ae,cK,ac,V⟩:=hcut;clear S3 bO bX ak bo N aD az ba ad cE aq ai ct hR cn aL aE aM bA GX hX hT ar au cd;have bR:=S.Ep.cell;have cc:=S.Ep.frozen;have bB:=S.bytes hB;go_upto_region 11 with fail;go_cut [54] from 53 (λv W=>v=.int .i64 j/\W=wc);case first=>go_wp2_with fail;go_meet;exact⟨rfl,rfl⟩
  case rest=>
  obtain⟨rfl,cG⟩:=hcut;obtain rfl:=cG.symm;go_step;go_cut [] from 53 (λW=>apf w g bs W);case first=>by_cases k1:j=1;(.subst k1;go_wp2_with fail;go_meet;exact⟨1,K,M,X.setWidth 32,0,[],je,none,0,V,S.set 3 _,fV.nil,by simp⟩);have av:=(ac _ bB).cap;rw[ae]at av;by_cases bc:j=2\/j=3;(.obtain⟨m4,ch⟩:=fD (min 4 n);(have cP: ∀W,(Instr.slice 45 (.slice A n k) none (some (.int .i64 (min 4 (n:Int)))) none).run aj W=.ok (.slice A m4 k) W:=λW=>by rw[CX _ _ _ _ _ _ (by omega) (by omega),show(min 4 (n:Int)).toNat=m4 by omega]);obtain⟨bw,hZ⟩:=fD (bT 64 (num (r.take m4)));have cm:=λW (h:aq2 W (some ⟨b,off,none⟩) c bs)=>FM A m4 k (r.take m4) W (by simp;omega) ((ac W h).aif m4 (by omega)) (by simp;omega);(have N:Bf bs=some ⟨j,K,M,X.setWidth 32,bw.setWidth 32,[],je⟩:=by rw[V,Y2,Ξ k1,Υ bc,ae,<-ch,hZ,adT]);rw[<-hZ]at cm;clear ch hZ V;rcases bc with rfl |rfl <;> (go_wp2_with (go_at_call 104;(refine(cm _ ((S.set 3 _).bytes hB)).mono ?_);rintro e wn⟨rfl,hw⟩;obtain rfl:=hw.symm);go_meet;exact⟨_,K,M,X.setWidth 32,bw.setWidth 32,[],je,none,0,N,(S.set 3 _).set 4 _,fV.nil,by simp⟩));by_cases k5:j=5;(.subst k5;obtain⟨m2,cg⟩:=fD (min 2 n);(have cx: ∀W,(Instr.slice 45 (.slice A n k) (some (.int .i64 (min 2 (n:Int)))) none none).run aj W=.ok (.slice (qQ A m2 k) (n-m2) (k-m2)) W:=λW=>by rw[tJ _ _ _ _ _ _ (by omega) (by omega),show(min 2 (n:Int)).toNat=m2 by omega]);have bx:=λW (h:aq2 W (some ⟨b,off,none⟩) c bs)=>(ac W h).cutFrom m2 (by omega);obtain⟨r2,a8⟩:=fD (r.drop m2);obtain⟨n2,ad⟩:=fD (n-m2);obtain⟨R2,bf⟩:=fD (qQ A m2 k);obtain⟨c2,bj⟩:=fD (k-m2);(have a6:r2.length=n2:=by rw[a8,ad,List.length_drop,ae]);(have cz:n2<=2000:=by omega);(replace V:Bf bs=some ⟨5,K,M,0,X.setWidth 32,r2,je⟩:=by rw[V,a8,cg,<-ae];rfl);rw[<-a8,<-bf,<-bj]at bx;rw[<-bf,<-ad,<-bj]at cx;clear a8 ad bf bj cg av ac;go_wp2_with(go_at_call 105;(with_reducible refine(D8 R2 n2 c2 r2 _ _ a6.symm (by simp[dD]) (bx _ ((S.set 4 _).bytes hB)) (by omega)).mono ?_);rintro e w4⟨v4,rfl,Y,bi⟩;have S4:=((S.set 4 _).alloc _).grow bi;replace Y:=Y.mono (base':=g+1) ((S.set 4 (q32 (X.setWidth 32))).alloc (.cells #[.slice R2 n2 c2] 45)).Ep.lt;obtain⟨Ab,cb,rfl,cA,_⟩:=id Y;rw[a6]at Y;replace bR:=S4.Ep.cell;replace cc:=S4.Ep.frozen;have bq:=Y.setCell (p:=⟨g,5,none⟩) (by show g<_;omega) (.slice Ab n2 cb));go_meet;exact⟨5,K,M,0,X.setWidth 32,r2,je,Ab,cb,V,by rw[a6];exact S4.set 5 _,by rw[a6];exact bq,by omega⟩);by_cases k6:j=6;(.subst k6;(have cz:n<=2000:=by omega);clear av;go_wp2_with(go_at_call 105;(with_reducible refine(D8 A n k r _ _ ae.symm (by simp[dD]) (ac _ ((S.set 4 _).bytes hB)) (by omega)).mono ?_);rintro e w4⟨v4,rfl,Y,bi⟩;have S4:=((S.set 4 _).alloc _).grow bi;replace Y:=Y.mono (base':=g+1) ((S.set 4 (q32 (X.setWidth 32))).alloc (.cells #[.slice A n k] 45)).Ep.lt;obtain⟨Ab,cb,rfl,cA,_⟩:=id Y;rw[ae]at Y;replace bR:=S4.Ep.cell;replace cc:=S4.Ep.frozen;have bq:=Y.setCell (p:=⟨g,5,none⟩) (by show g<_;omega) (.slice Ab n cb));go_meet;exact⟨6,K,M,0,X.setWidth 32,r,je,Ab,cb,by rw[V];rfl,by rw[ae];exact S4.set 5 _,by rw[ae];exact bq,by omega⟩);clear av;(have e1:(j==1)=false:=by simpa using k1);(have e2:(j==2)=false:=by simp;omega);(have e3:(j==3)=false:=by simp;omega);(have e5:(j==5)=false:=by simpa using k5);(have e6:(j==6)=false:=by simpa using k6);go_wp2_with fail;go_meet;exact⟨j,K,M,0,0,[],je,none,0,by rw[V,Y2,Ξ k1,Ξ bc,Ξ k5,Ξ k6],S,fV.nil,by simp⟩
  case rest=>
   obtain⟨j,K,M,a,b',body,je,A,k,V,S,a1,bN⟩:=hcut;(have bE:aq2 wc A k body:=by obtain⟨_,_,e,h,_⟩:=id a1;injection e with e1 _ e3;rw[e1,e3];exact h);obtain⟨n,hn⟩:=fD body.length;have af:=adS ⟨j,K,M,a,b',body,je⟩ A n k wc hn bE bN;simp only at af;rw[<-hn]at S a1;(have O:vY bs=if may ⟨j,K,M,a,b',body,je⟩=true/\enc ⟨j,K,M,a,b',body,je⟩=bs then some ⟨j,K,M,a,b',body,je⟩ else none:=by rw[vY,V]);obtain⟨p,hp⟩: ∃p:P7,p=⟨j,K,M,a,b',body,je⟩:=⟨_,rfl⟩;rw[<-hp]at af O;have HP:=ah hp;have HE:=ah O;have HS:=ah a1;have cH:=S.Ep.cell;have bB:=S.bytes hB;clear hp O a1 V hn bE bN;obtain⟨ep,bS⟩:=fD (enc p);rw[<-bS]at af HE;clear bS;by_cases ag:may p=true/\ep=bs;.have O:=HE.out;rw[Υ ag]at O;have an:Hid (er=0):=ah (by rw[aa.out,O];rfl);have aw:Hid (q=p):=ah (by rw[hq.out,O];rfl);have ap:=λ(W:ω) Aa ca (h1:aq2 W Aa ca ep) (h2:aq2 W (some ⟨b,off,none⟩) c bs)=>Ot Aa _ ca ep (some ⟨b,off,none⟩) bs.length c bs W rfl rfl h1 h2;rw[decide_eq_true ag.2]at ap;rw[ag.1]at af;clear ag O;go_wp2_with(first|(go_at_call 103;(with_reducible refine af.mono ?_);rintro e w5⟨va,rfl,⟨Aa,ca,rfl,bd,_⟩,aR⟩;have Z:=S.grow aR;have xQ:=Z.bytes hB;have cf:=Z.Ep;have IJ:=Z.res;have bb:=Z.below)|(go_at_call 106;(with_reducible refine(ap _ _ _ bd xQ).mono ?_);rintro e w6⟨rfl,hw⟩;obtain rfl:=hw.symm)|(with_reducible refine gy rfl 136 (.tmp 4) rfl g rfl 136 (#[.int .i64 j,.int .i64 K,.int .i64 M,q32 a,q32 b',.slice A n k,q64 je]) _ cf bF rfl (by kernel_rfl) ?_)|(with_reducible refine jZ rfl 136 (.tmp 2) (.tmp 106) rfl w (#[.int .i64 j,.int .i64 K,.int .i64 M,q32 a,q32 b',.slice A n k,q64 je]) rfl rfl 136 _ IJ (by kernel_rfl) rfl (by simp[aK,q32,q64]) w w bb ig ?_;intro w7 Qg IU cu Qw));have Oe:=Qg.cell;refine β (v:=.tuple #[.agg #[.int .i64 j,.int .i64 K,.int .i64 M,q32 a,q32 b',.slice A n k,q64 je],.int .i64 0]) (by simp[results,results59,go_sem,Oe]) rfl ⟨_,by rw[an.out],by rw[aw.out];(rw[HP.out];exact⟨_,rfl,((HS.out.grow aR).kept (by omega) λk U _=>Qw k (by omega)).mono (by omega)⟩),IU⟩
   .have O:=HE.out;rw[Ξ ag]at O;have an:Hid (er=8):=ah (by rw[aa.out,O];rfl);have aw:Hid (q=P7.none_):=ah (by rw[hq.out,O];rfl);have ap:=λ(W:ω) Aa ca (h1:aq2 W Aa ca ep) (h2:aq2 W (some ⟨b,off,none⟩) c bs)=>Ot Aa _ ca ep (some ⟨b,off,none⟩) bs.length c bs W rfl rfl h1 h2;(have bm:may p=false\/may p=true/\decide (ep=bs)=false:=by cases hm:may p;(.exact .inl rfl);.exact .inr ⟨rfl,decide_eq_false λh=>ag ⟨hm,h⟩⟩);generalize may p=mp at af bm;generalize decide (ep=bs)=d at ap bm;clear ag O
    rcases bm with rfl | ⟨rfl, rfl⟩ <;> (
      go_wp2_with (first
        |(go_at_call 103;(with_reducible refine af.mono ?_);rintro e w5⟨va,rfl,⟨Aa,ca,rfl,bd,_⟩,aR⟩;have Z:=S.grow aR;have xQ:=Z.bytes hB;have cf:=Z.Ep;have IJ:=Z.res;have bb:=Z.below)
        |(go_at_call 106;(with_reducible refine(ap _ _ _ bd xQ).mono ?_);rintro e w6⟨rfl,hw⟩;obtain rfl:=hw.symm)
        |(with_reducible refine jZ rfl 136 (.tmp 2) (.tmp 105) rfl w gi rfl rfl 136 _ IJ (by kernel_rfl) rfl (by simp[aK]) w w bb ig ?_;intro w7 Qg IU cu Qw))
      have Oe:=Qg.cell
      refine β (v:=.tuple #[.agg gi,.int .i64 8]) (by simp[results,results59,go_sem,Oe]) rfl ⟨_,by rw[an.out],by rw[aw.out];exact⟨_,rfl,fV.nil⟩,IU⟩
      )
end
set_option maxRecDepth 8000
theorem akC(A:Option δ)(n c:Nat)(bs:List UInt8)(w:ω)(hn:n=bs.length)(hB:aq2 w A c bs)(K:bs.length<=2000):Γ aj 59 #[.slice A n c] w λe w'=> ∃v,e=.returned (.tuple #[v,(if(vY bs).isSome then 0 else 8:Int)])/\Ou w ((vY bs).getD P7.none_) v w'/\w w':=by
 subst hn;by_cases j:8<=bs.length;.obtain⟨b,off,rfl,_⟩:=hB.at_ (k:=0) (by omega);exact aef b off c bs w hB K j
 .have J:vY bs=none:=by simp[vY,Bf,show bs.length<8 by omega]
  refine(aau A c bs w hB (by omega)).mono ?_;rintro e w'⟨rfl,H⟩;rw[J];exact⟨_,rfl,⟨_,rfl,fV.nil⟩,H⟩
end Go.Proofs.YthnmgjngniciaaaGreatDoor
