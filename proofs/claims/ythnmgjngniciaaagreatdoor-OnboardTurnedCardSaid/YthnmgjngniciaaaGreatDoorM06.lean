/- Parts. -/
import Derived.Test.YthnmgjngniciaaaGreatDoorM05
import Derived.Test.YthnmgjngniciaaaGreatDoorM03
import Derived.Test.YthnmgjngniciaaaGreatDoorM04
set_option linter.all false
set_option maxHeartbeats 16000000
set_option maxRecDepth 8000
open Bool renaming and_eq_true→bM
open List renaming drop_of_length_le→dJ,length_take→dX,mem_of_getElem?→bP,setIfInBounds_toArray→ay,set_cons_succ→aB,set_cons_zero→aA
open Nat renaming le_refl→aW,lt_of_lt_of_le→aU,zero_le→aV
namespace Go.Proofs.YthnmgjngniciaaaGreatDoor
open Go.RowKit Go.Shelf Tryz
open Act renaming put→aP
open Below renaming refl→aH
open Lib renaming hid→ah
open Tryz renaming prog→aj,underlying3→bG,underlying4→dL
open Value renaming oneCell'→aK
variable{n:Int}{p:List St}{k:Nat}{s:St}{t:Tp}{m:jl}{w:World}
abbrev Vt (p:Ps):Value:=.agg #[.int .i64 p.edge,.int .i64 p.at_,.bool p.rev]
theorem wK{p:Ps}(h:pO t p=true):jr t=0/\iW t p.edge=true/\0<=p.at_/\p.at_<=jS t p.edge:=by unfold pO at h;simp only[bM,decide_eq_true_eq]at h;exact⟨h.1.1.1,h.1.1.2,h.1.2,h.2⟩
theorem rD{w:World}{t:Tp}{m:jl}(h:jE w t m){e:Int}(K:iW t e=true): ∃(i:Nat) (v:Int) (g off:Nat),e=(i:Int)/\i<m.n1/\jS t e=v/\m.A1=some ⟨g,off,none⟩/\(∀W,w W->W.cell? ⟨g,off+i,none⟩=some v)/\v∈t.edges:=by obtain⟨i,rfl,d,O⟩:=BL K;obtain⟨H,j,N,M,c0⟩:=h.lies.edges.int d;refine⟨i,_,H,j,rfl,by rw[<-h.e1];exact d,O,N,λW J=>(J.cell (p:=⟨H,j+i,none⟩) M).trans c0,?_⟩;rw[getElem!_pos t.edges i d];exact List.getElem_mem d
theorem Pm(h:jE w t m)(p:Ps):Calls aj 47 #[m.cells,Vt p] w λe w'=>e=.returned (.bool (pO t p))/\w w':=by
 have H:Own w _ [_,_]:=Own.iY w 27 38 m.cells #[p.edge,p.at_,p.rev];have ae:=H.b0.cell;have al:=H.b1.cell;have Y:=λW (hW:w W)=>yK (h.below hW);have d:pO t p=(decide (jr t=0)&&iW t p.edge&&decide (0<=p.at_)&&decide (p.at_<=jS t p.edge)):=rfl;have j:iW t p.edge=(decide (0<=p.edge)&&decide (p.edge<t.edges.length)):=rfl;rw[h.e1]at j;have U:= @rD w t m h p.edge;obtain⟨J,O,pr⟩:=p;simp only at d j U H ae al;generalize pO t ⟨J,O,pr⟩=Q at*;generalize iW t J=th at*;by_cases K:jr t=0;focus(rw[K]at Y;by_cases h2:0<=J;(focus((have f2:decide (0<=J)=true:=by simpa using h2);by_cases h3:J<m.n1;(focus((have f3:decide (J<(m.n1:Int))=true:=by simpa using h3);rw[f2,f3]at j;subst j;obtain⟨i,Z,g,off,rfl,an,am,ag,ap,_⟩:=U rfl;rw[am,K]at d;simp only[jl.cells,ag]at Y ae H ⊢;by_cases h4:0<=O;(·(have V:decide (0<=O)=true:=by simpa using h4);by_cases h5:O<=Z;(focus((have f5:decide (O<=Z)=true:=by simpa using h5);obtain rfl:Q=true:=by rw[d,V,f5];rfl));rotate_left;(focus((have f5:decide (O<=Z)=false:=by simpa using h5);obtain rfl:Q=false:=by rw[d,V,f5];rfl));all_goals(clear d;go_enter func47,ntmps47;go_wp2_with fail;refine ara (by kernel_rfl) ?_;(repeat(first|(apply gX.want rfl;(·intro w' N af Q' hK;have M:=H.grow N;have aa:=M.below;have ai:=M.b0.cell;have ak:=M.b1.cell;go_wp2_with((with_reducible refine(Y _ aa).mono ?_);rintro e w3⟨rfl,ad⟩);first|exact aH _ _|exact ad);(·simp only[aP,ay,aA,aB];rfl))));refine gX.nil ?_;intro w' N;have ac:=(H.grow N).below;go_wp2_with fail;go_ret;exact⟨by simp,ac⟩));focus((have V:decide (0<=O)=false:=by simpa using h4);(obtain rfl:Q=false:=by rw[d,V];rfl);clear d)));rotate_left;focus((have f3:decide (J<(m.n1:Int))=false:=by simpa using h3);(obtain rfl:Q=false:=by rw[d,j,f3];simp);clear d j U K;unfold jl.cells at*)));rotate_left 2;focus((have f2:decide (0<=J)=false:=by simpa using h2);(obtain rfl:Q=false:=by rw[d,j,f2];simp);clear d j U K;unfold jl.cells at*))
 rotate_left 3;focus((obtain rfl:Q=false:=by rw[d,decide_eq_false K];rfl);generalize jr t=ck at*;(have f1:(ck==0)=false:=by simpa using K);clear d j U K;unfold jl.cells at*)
 all_goals(go_enter func47,ntmps47;go_wp2_with fail;refine ara (by kernel_rfl) ?_;(repeat(first|(apply gX.want rfl;(·intro w' N af Q' hK;have M:=H.grow N;have aa:=M.below;have ai:=M.b0.cell;have ak:=M.b1.cell;go_wp2_with((with_reducible refine(Y _ aa).mono ?_);rintro e w3⟨rfl,ad⟩);first|exact aH _ _|exact ad);(·simp only[aP,ay,aA,aB];rfl))|(apply gX.skip rfl;·simp only[aP,ay,aA,aB];rfl)));refine gX.nil ?_;intro w' N;have ac:=(H.grow N).below;go_wp2_with fail;go_ret;exact⟨by simp,ac⟩)
theorem Yn(h:jE w t m)(p:Ps)(hp:pO t p=true):Calls aj 123 #[m.cells,Vt p] w λe w'=>e=.returned (pR t p:Int)/\w w':=by
 have d:Own w _ [_,_]:=Own.iY w 27 38 m.cells #[p.edge,p.at_,p.rev];have O:=d.b0.cell;have aa:=d.b1.cell;obtain⟨hc,ad,V,N⟩:=wK hp;obtain⟨i,j,g,off,hi,ak,Q,Y,al,ac⟩:=rD h ad;have am:=jC hc j ac;have K:pR t p=if p.rev then j-p.at_ else p.at_:=by unfold pR;rw[Q]
 rw[Q]at N;obtain⟨pe,M,pr⟩:=p;simp only at hi V N K d O aa;subst hi;generalize pR t ⟨i,M,pr⟩=U at*;simp only[jl.cells,Y]at O d ⊢;cases pr with
 |false=>obtain rfl:U=M:=K;go_enter func123,ntmps123;go_wp2_with fail;go_ret;exact⟨rfl,d.below⟩
 |true=>
  obtain rfl:U=j-M:=K;go_enter func123,ntmps123;go_wp2_with fail;refine ara (by kernel_rfl) ?_;repeat(first|(apply gX.want rfl;(·intro w' J ae Q' hK;have H:=d.grow J;have af:=H.below;have ag:=H.b0.cell;have ai:=H.b1.cell;go_wp2_with(fail);first|exact aH _ _);(·simp only[aP,ay,aA,aB];rfl)))
  refine gX.nil ?_;intro w' J;have Z:=(d.grow J).below;go_wp2_with fail;go_ret;exact⟨rfl,Z⟩
theorem vP(a b:St)(W:World):(binOp .eql 58 (qB a) (qB b)).run aj W=.ok (.bool (decide (a=b))) W:=by
 have V:=bG;have a3:=isAgg3;have Z:=sizeOf3;have Y:=dL;have U:=isAgg4;have z4:=sizeOf4;have J:aj.underlying 58=some (.struct (aj.fieldsOf 58)):=by kernel_rfl
 have K:aj.stoodInHeld 58=false:=by kernel_rfl
 rw[run_eql_struct,show(10000:Nat)=9999+1 from rfl];have d:=run_equalIn_agg (P:=aj) W 9999 58 #[a.edge,a.rev] #[b.edge,b.rev] J K;simp only[Program.fieldsOf,underlying58]at d;rw[d];go_simp;obtain⟨M,N⟩:=a;obtain⟨O,Q⟩:=b;by_cases j:M=O <;> by_cases H:N=Q <;> simp[j,H]
theorem JF(a b:St)(W:World):(binOp .neq 58 (qB a) (qB b)).run aj W=.ok (.bool (!decide (a=b))) W:=by
 have h:=vP a b W;simp only[binOp,Op.equal]at h ⊢;simp at h ⊢;cases d:(Op.equalIn Op.maxDepth 58 (qB a) (qB b)).run aj W with
 |ok v W'=>rw[d]at h;simp at h;obtain⟨j,H⟩:=h;subst H;simp[j]
 |halt e W'=>rw[d]at h;simp at h
structure DF where
  A1:Option Addr
  n1:Nat
  c1:Nat
  A2:Option Addr
  n2:Nat
  c2:Nat
def nO (m:Ma) (v:DF):Array Value:= #[.int .i64 m.ref,.bool m.rev,.slice v.A1 v.n1 v.c1,.slice v.A2 v.n2 v.c2,.int .i64 m.gap]
structure EK (w:World) (m:Ma) (v:DF):Prop where
  path:fE gV w v.A1 m.path
  fP:fE kW w v.A2 m.fP
  e1:m.path.length=v.n1
  e2:m.fP.length=v.n2
  l1:v.n1<=100
  l2:v.n2<=100
  q1:v.n1<=v.c1
  q2:v.n2<=v.c2
theorem EK.below{w':World}{m:Ma}{v:DF}(h:EK w m v)(d:w w'):EK w' m v:={h with path:=h.path.below d,fP:=h.fP.below d}
theorem Sz: ∀args w,(callFunc 185 args).run aj w=.ok (.enter 185 args) w:=enters_of func185 (by kernel_rfl) (by rfl)
theorem afG(x:St)(e:Int)(g:Nat)(w:World)(hA:w.cell? ⟨g,0,none⟩=some e)(H:g<w.heap.size):Calls aj 185 #[.agg (gV.enc x).toArray,.pointer g] w λr w'=>r=.returned (.bool (decide (x.edge=e)))/\w w':=by obtain⟨j,J⟩:=x;simp only[gV];have d:Own w _ [_]:=(Own.nil w).alloc 58 #[j,J] _ rfl;have M:=d.b0.cell;have K:=(d.below.cell (p:=⟨g,0,none⟩) H).trans hA;go_enter func185,ntmps185;go_wp2_with fail;go_ret;refine⟨?_,d.below⟩;by_cases h:j=e <;> simp[h]
theorem SA(A:Option Addr)(n c:Nat)(p:List St)(e:Int)(w:World)(M:fE gV w A p)(hn:p.length=n)(N:n<=100):Calls aj 134 #[.slice A n c,e] w λr w'=>r=.returned (.bool (xG p e))/\w w':=by have d:Own w _ [_]:=(Own.nil w).alloc 3 #[e] _ rfl;have K:=d.b0.cell;have H:=Yj 185 Sz #[.pointer w] (λx=>decide (x.edge=e)) A n c p _ (λW' x j=>(afG x e w W' ((j.cell (p:=⟨w,0,none⟩) d.b0.lt).trans (K 0)) (aU d.b0.lt j.size)).mono λ_ _ h=>⟨h.1,gZ j h.2⟩) (M.below d.below) hn (by omega);unfold xG;go_enter func134,ntmps134;go_wp2_with(first|((with_reducible refine H.mono ?_);rintro e O⟨rfl,J⟩;replace d:=d.grow J));go_ret;exact⟨rfl,d.below⟩
theorem V6(h:p[k]? =some s):qA (p.take k) (p.drop k)=(xG (p.take k) s.edge || qA (p.take (k+1)) (p.drop (k+1))):=by rw[ark h,take_snoc' h,qA]
theorem Yo(A:Option Addr)(n c:Nat)(p:List St)(w:World)(Y:fE gV w A p)(hn:p.length=n)(hl:n<=100)(hc:n<=c):Calls aj 81 #[.slice A n c] w λr w'=>r=.returned (.bool (qA [] p))/\w w':=by
 have M:=ah hn;go_enter func81,ntmps81;go_wp2;go_loopw [7] (λi wr=> ∃k:Nat,i=.int .i64 k/\k<=n/\Hid (qA [] p=qA (p.take k) (p.drop k))/\w wr) (λi _=>n-(intOf i).toNat);case atStart=>exact⟨0,rfl,aV _,ah (by simp),aH _ _⟩
 case round=>
  obtain⟨k,rfl,d,hap,hB⟩:=hrel;by_cases ad:k<n;·obtain⟨s,Z⟩:=aq5 M.out ad;obtain⟨g,off,rfl,V,a0,a1⟩:=Y.st Z;have Cm:=(hB.cell (p:=⟨g,off+k*2,none⟩) V).trans a0;have CB:=(hB.cell (p:=⟨g,off+k*2+1,none⟩) V).trans a1;have J:=V6 Z;rw[<-hap.out]at J;have U:=λW (hW:w W)=>SA (some ⟨g,off,none⟩) k c (p.take k) s.edge W ((Y.part k).below hW) (by rw[dX,M.out];omega) (by omega);obtain⟨x1,x2⟩:=s;simp only at Cm CB U J;have K:Own wr _ [_]:=(Own.nil wr).alloc 58 #[x1,x2] _ rfl;generalize xG (p.take k) x1=ov at*;go_wp2;cases ov with|false=>rw[Bool.false_or]at J;have H:=ah J;refine ara (by kernel_rfl) ?_;(repeat(first|(apply gX.want rfl;(·intro w' d aa Q' hK;have j:=K.grow d;have N:=gZ hB j.below;have ac:=j.b0.cell;go_wp2_with((with_reducible refine(U _ N).mono ?_);rintro e w3⟨rfl,Q⟩);first|exact aH _ _|exact Q);(·simp only[aP,ay,aA,aB];rfl))));refine gX.nil ?_;intro w' d;have O:=gZ hB (K.grow d).below;go_wp2_with fail;go_roundw;(case rel=>exact⟨k+1,by go_num,by omega,H,O⟩);case measure=>simp[intOf];omega|true=>have H:=ah J;refine ara (by kernel_rfl) ?_;(repeat(first|(apply gX.want rfl;(·intro w' d aa Q' hK;have j:=K.grow d;have N:=gZ hB j.below;have ac:=j.b0.cell;go_wp2_with((with_reducible refine(U _ N).mono ?_);rintro e w3⟨rfl,Q⟩);first|exact aH _ _|exact Q);(·simp only[aP,ay,aA,aB];rfl))));refine gX.nil ?_;intro w' d;have O:=gZ hB (K.grow d).below;go_wp2_with fail;go_ret;exact⟨by simp[H.out],O⟩
  ·(obtain rfl:k=n:=by omega);(have H:qA [] p=false:=by rw[hap.out,dJ (by rw[M.out];exact aW _)];rfl);have Zv:=ah H;go_wp2_with fail;go_ret;exact⟨by simp[Zv.out],hB⟩
theorem V7{l:List Sc}{s:Sc}{age:Int}(h:l[k]? =some s):jB (l.drop k) age n=if s.timer<=age then n else jB (l.drop (k+1)) age s.kL:=by rw[ark h,jB]
theorem I5(m:Ma)(v:DF)(age:Int)(w:World)(h:EK w m v):Calls aj 40 #[nO m v,age] w λr w'=>r=.returned (jB m.fP age 0:Int)/\w w':=by
 have K:Own w _ [_]:=(Own.nil w).alloc 42 (nO m v) _ rfl;have ae:=K.b0.cell;have ag:=h.l2;unfold nO at*;go_enter func40,ntmps40;go_wp2;go_loopw [5,11] (λs i wr=> ∃(k:Nat) (x:Int),i=.int .i64 k/\k<=v.n2/\s=.int .i64 x/\Hid (jB m.fP age 0=jB (m.fP.drop k) age x)/\w wr) (λ_ i _=>v.n2-(intOf i).toNat);case atStart=>exact⟨0,0,rfl,aV _,rfl,ah (by simp),K.below⟩
 case round=>
  obtain⟨k,x,rfl,hk,rfl,hap,hB⟩:=hrel;by_cases ad:k<v.n2;·obtain⟨s,N⟩:=aq5 h.e2 ad;obtain⟨g,off,aa,M,a0,Z⟩:=h.fP.sc N;have V:=(hB.cell (p:=⟨g,off+k*2,none⟩) M).trans a0;have U:=(hB.cell (p:=⟨g,off+k*2+1,none⟩) M).trans Z;have d:=V7 (age:=age) (n:=x) N;rw[<-hap.out]at d;obtain⟨O,Q⟩:=s;simp only at V U d;have H:Own wr _ [_]:=(Own.nil wr).alloc 60 #[O,Q] _ rfl;have af:=H.b0.cell;simp only[aa];by_cases J:Q<=age;(·rw[if_pos J]at d;have j:=ah d;go_wp2_with fail;go_ret;exact⟨by simp[j.out],gZ hB H.below⟩);·rw[if_neg J]at d;have j:=ah d;go_wp2_with fail;go_roundw;(case rel=>exact⟨k+1,O,by go_num,by omega,rfl,j,gZ hB H.below⟩);case measure=>simp[intOf];omega
  ·(obtain rfl:k=v.n2:=by omega);(have ac:jB m.fP age 0=x:=by rw[hap.out,dJ (by rw[h.e2];exact aW _)];rfl);have Y:=ah ac;go_wp2_with fail;go_ret;exact⟨by simp[Y.out],hB⟩
theorem ab1(h:jE w t m)(s:St)(n:Int)(hc:jr t=0)(Y:iW t s.edge=true)(h0:0<=n)(h1:n<=4398046511104):Calls aj 122 #[m.cells,qB s,n] w λe w'=>e=.returned (Vt (Hu t s n))/\w w':=by
 have d:Own w _ [_,_,_]:=Own.start3 w 27 58 38 m.cells #[s.edge,s.rev] gA;have J:=d.b0.cell;have N:=d.b1.cell;obtain⟨i,H,g,off,hi,aa,Q,M,U,O⟩:=rD h Y;have ac:=jC hc H O;have V:Hu t s n=⟨s.edge,if s.rev then H-n else n,s.rev⟩:=by unfold Hu;rw[Q]
 rw[V];obtain⟨pe,pr⟩:=s;simp only at hi d J N ⊢;subst hi;simp only[jl.cells,M]at J d ⊢;have ad:=U _ d.below;rcases pr with _ |_;focus(go_enter func122,ntmps122;go_wp2_with(first|fail|((with_reducible refine jv (#[i,n,false]) d rfl _ _ rfl rfl rfl (by kernel_rfl) rfl ?_ ?_);(·first|(simp[aK];done));intro K j Z jQ;replace d:=j;clear j)))
 rotate_left;focus(go_enter func122,ntmps122;go_wp2_with(first|fail|((with_reducible refine jv (#[i,(H-n:Int),true]) d rfl _ _ rfl rfl rfl (by kernel_rfl) rfl ?_ ?_);(·first|(simp[aK];done));intro K j Z jQ;replace d:=j;clear j)))
 all_goals(exact bodyPost_ret (nC results122 _ _ _ _ _ rfl d.b2 underlying38 rfl (by rfl)) rfl ⟨rfl,d.below⟩)
theorem V8{x:St}(h:p[k]? =some s):uJ t x (p.drop k) n=if s=x then some n else uJ t x (p.drop (k+1)) (n+jS t s.edge):=by rw[ark h,uJ]
theorem aiX(h:jE w t m)(A:Option Addr)(n c:Nat)(path:List St)(p:Ps)(hp:fE gV w A path)(hn:path.length=n)(hl:n<=100):Calls aj 68 #[m.cells,.slice A n c,Vt p] w λe w'=>e=.returned (.tuple #[.int .i64 (F5 t path p).1,.int .i64 (F5 t path p).2])/\w w':=by
 have d:Own w _ [_,_]:=Own.iY w 27 38 m.cells #[p.edge,p.at_,p.rev];have aa:=d.b0.cell;have ac:=d.b1.cell;have M:=λW (N:w W)=>Pm (h.below N) p;have V:=λW (N:w W)=>RQ (h.below N) A n c path (hp.below N) hn hl;have U:=λW (N:w W)=>Yn (h.below N) p;have J:F5 t path p=if pO t p=false then(0,1) else if ny t path≠0 then(0,ny t path) else match uJ t ⟨p.edge,p.rev⟩ path 0 with|none=>(0,4)|some n=>(n+pR t p,0):=rfl
 have HN:=ah hn;generalize a4:F5 t path p=on at*;by_cases Z:pO t p=true
 ·rw[if_neg (by grind)]at J;have az:0<=pR t p/\pR t p<=1000000:=by obtain⟨r1,r2,r3,r4⟩:=wK Z;obtain⟨i,ev,_,_,_,_,af,_,_,ae⟩:=rD h r2;have av:=jC r1 ev ae;rw[af]at r4;unfold pR;omega
  have ap:=(wK Z).1;rw[Z]at M;replace U:=λW (N:w W)=>U W N Z;generalize pR t p=ax at*;generalize qc t path=lt at*;by_cases h2:ny t path=0;·rw[if_neg (by omega)]at J;have aw:=zY h2;rw[h2]at V;have H:=ah J;clear J;obtain⟨K,pa,pr⟩:=p;simp only[jl.cells]at d aa ac M V U ⊢;go_enter func68,ntmps68;go_wp2_with(first|((with_reducible refine(M _ d.below).mono ?_);rintro e fU⟨rfl,j⟩;replace d:=d.grow j;have uU:=d.b0.cell;have ak:=d.b1.cell)|((with_reducible refine(V _ d.below).mono ?_);rintro e fU⟨rfl,j⟩;replace d:=d.grow j;have aq:=d.b1.cell));clear aa ac uU ak aq M V;go_loopw [10,28] (λa i wr=> ∃(k:Nat) (x:Int),i=.int .i64 k/\k<=n/\a=.int .i64 x/\0<=x/\x<=1000000*k/\Hid (uJ t ⟨K,pr⟩ path 0=uJ t ⟨K,pr⟩ (path.drop k) x)/\Own w wr [(w,27,#[.slice m.A1 m.n1 m.c1,.slice m.A2 m.n2 m.c2,.slice m.A3 m.n3 m.c3,.slice m.A4 m.n4 m.c4]),(w.heap.size+1,38,#[K,pa,pr])]) (λ_ i _=>n-(intOf i).toNat);(case atStart=>exact⟨0,0,rfl,aV _,rfl,by omega,by omega,ah (by simp),d⟩);case round=>clear d;obtain⟨k,x,rfl,hk,rfl,a5,a6,hap,d⟩:=hrel;have aa:=d.b0.cell;have ac:=d.b1.cell;by_cases au:k<n;(·obtain⟨s,hs⟩:=aq5 HN.out au;obtain⟨g,off,rfl,hg,a0,a1⟩:=hp.st hs;have Cm:=(d.below.cell (p:=⟨g,off+k*2,none⟩) hg).trans a0;have CB:=(d.below.cell (p:=⟨g,off+k*2+1,none⟩) hg).trans a1;have am:=aw.2.2.1 s (bP hs);obtain⟨i,ev,ge,CG,hi,aM,af,an,ar,ae⟩:=rD h am;have av:=jC ap ev ae;have Y:=V8 (t:=t) (x:=⟨K,pr⟩) (n:=x) hs;rw[<-hap.out,af]at Y;have al:=vP s ⟨K,pr⟩;obtain⟨x1,x2⟩:=s;simp only at hi Cm CB al;subst hi;simp only[an]at d aa U ⊢;have O:=Own.new2 d 58 #[i,x2];have aD:=O.b0.cell;have aE:=O.b1.cell;have aL:=O.b2.cell;have a7:=ar _ O.below;clear hs a0 a1 am af ae;obtain⟨sm,ad⟩:=fD (decide ((⟨i,x2⟩:St)=⟨K,pr⟩));rw[<-ad]at al;cases sm with|false=>rw[if_neg (by simpa using ad.symm)]at Y;have HS:=ah Y;clear Y hap ad;go_wp2_with fail;go_roundw;(case rel=>exact⟨k+1,x+ev,by go_num,by omega,rfl,by omega,by omega,HS,⟨O.below,λx hx=>O.blk x (by simp at hx;rcases hx with rfl |rfl <;> simp),by simp⟩⟩);case measure=>simp[intOf];omega|true=>rw[if_pos (by simpa using ad.symm)]at Y;have Q:=H.out;rw[Y]at Q;replace H:=ah Q;clear Q Y hap ad;go_wp2_with(first|((with_reducible refine(U _ O.below).mono ?_);rintro e fU⟨rfl,j⟩;replace d:=O.grow j));go_ret2;exact⟨by simp[H.out],d.below⟩);·(obtain rfl:k=n:=by omega);(have ai:uJ t ⟨K,pr⟩ path 0=none:=by rw[hap.out,dJ (by rw[HN.out];omega)];rfl);have Q:=H.out;rw[ai]at Q;replace H:=ah Q;clear Q ai hap;go_wp2_with fail;go_ret2;exact⟨by simp[H.out],d.below⟩
  ·rw[if_pos h2]at J;have H:=ah J;generalize ny t path=le at*;(have aR:(le != 0)=true:=by grind);clear J h2 Z U;obtain⟨K,pa,pr⟩:=p;simp only[jl.cells]at d aa ac M V ⊢;go_enter func68,ntmps68;go_wp2_with(first|((with_reducible refine(M _ d.below).mono ?_);rintro e fU⟨rfl,j⟩;replace d:=d.grow j;have uU:=d.b0.cell;have ak:=d.b1.cell)|((with_reducible refine(V _ d.below).mono ?_);rintro e fU⟨rfl,j⟩;replace d:=d.grow j));go_ret2;exact⟨by simp[H.out],d.below⟩
 ·rw[if_pos (by grind)]at J;have ag:pO t p=false:=by grind
  rw[ag]at M;have H:=ah J;clear J Z ag U V;obtain⟨K,pa,pr⟩:=p;simp only[jl.cells]at d aa ac M ⊢;go_enter func68,ntmps68;go_wp2_with(first|((with_reducible refine(M _ d.below).mono ?_);rintro e fU⟨rfl,j⟩;replace d:=d.grow j));go_ret2;exact⟨by simp[H.out],d.below⟩
end Go.Proofs.YthnmgjngniciaaaGreatDoor
