/- Parts. -/
import Derived.Test.YthnmgjngniciaaaGreatDoorM13
set_option linter.all false
set_option maxHeartbeats 16000000
set_option maxRecDepth 8000
open Array renaming getElem?_setIfInBounds_ne→dR
open Bool renaming and_eq_true→bM
open List renaming cons_append→bQ,getElem?_eq_some_iff→aX,length_cons→bK,length_nil→dU,mem_append→dK,mem_of_getElem?→bP,mem_singleton→dN,nil_append→aZ,take_of_length_le→aY
open Nat renaming add_zero→bI,le_of_eq→bZ,le_refl→aW,le_trans→aG,zero_add→aJ,zero_le→aV
namespace Go.Proofs.YthnmgjngniciaaaGreatDoor
open Go.RowKit Go.Shelf Tryz
open Below renaming heap_setCell→aN,refl→aH
open Lib renaming hid→ah
open Tryz renaming prog→aj
variable{x:Int × Int}{l:List (Int × Int)}{bs:List UInt8}{i:Nat}{p:Pk}{w:World}
theorem ajh(id:Int)(w:World):Calls aj 208 #[id] w λe w'=>e=.returned (.bool (Yv id))/\w'=w:=by
 unfold Yv;by_cases d:id=0;·subst d;go_enter func208,ntmps208;go_wp2;go_ret;simp
 ·by_cases j:id=1;·subst j;go_enter func208,ntmps208;go_wp2;go_ret;simp
  ·(have M:(id==0)=false:=by grind);(have f1:(id==1)=false:=by grind);(have J:(decide (id=0) || decide (id=1) || decide (id=11))=decide (id=11):=by grind);rw[J];by_cases H:id=11;(·subst H;go_enter func208,ntmps208;go_wp2;go_ret;simp);·(have N:(id==11)=false:=by grind);(have K:decide (id=11)=false:=by omega);rw[K];go_enter func208,ntmps208;go_wp2;go_ret;simp
theorem JU{σ:Type}{I:σ->Prop}{f:σ->Except Int σ}(h: ∀s s',f s=.ok s'->I s->I s'): ∀(n:Nat) (s s':σ),jg f n s=.ok s'->I s->I s'
 |0,s,s',e,hi=>by rw[jg]at e;grind
 |n+1,s,s',e,hi=>by rw[jg]at e;cases d:f s with|error x=>grind|ok j=>rw[d]at e;exact JU h n j s' e (h _ _ d hi)
theorem BQ{σ:Type}{I:σ->Prop}{val:Int->σ->Except Int (Int × σ)}(j: ∀v s n s',val v s=.ok (n,s')->I s->I s'): ∀(p:Pt) (last:Int) (s s':σ),mV val p last s=.ok s'->I s->I s'
 | .nil,_,s,s',e,hi=>by rw[mV]at e;grind
 | .pl v r,last,s,s',e,hi=>by rw[mV]at e;cases d:val v s with|error x=>grind|ok J=>obtain⟨n,H⟩:=J;rw[d]at e;exact BQ j r n H s' e (j _ _ _ _ d hi)
 | .grp k l r,last,s,s',e,hi=>by rw[wL]at e;cases d:jg (mV val l 0) (qC k last) s with|error x=>grind|ok H=>rw[d]at e;exact BQ j r last H s' e (JU (λa b h=>BQ j l 0 a b h) _ _ _ d hi)
def AO (l:List (Int × Int)):Prop:= ∀x∈l,0<=x.2/\x.2<=32
theorem WY(v:Int)(s:List Int × List (Int × Int))(n:Int)(s':List Int × List (Int × Int))(h:lC v s=.ok (n,s'))(H:AO s.2):AO s'.2:=by
 have J:=lq v;unfold lC at h;by_cases j:v=7
 ·rw[if_pos j]at h;injection h with h;injection h with _ h;subst h;intro x d;rcases dK.1 d with d |d;·exact H x d
  grind
 ·rw[if_neg j]at h;obtain⟨l,m⟩:=s;cases l with
  |nil=>cases h
  |cons y r=>simp only at h;by_cases hm:uX v y=true;(·rw[if_pos hm]at h;injection h with h;injection h with _ h;subst h;intro x d;rcases dK.1 d with d |d;(·exact H x d);grind);grind
theorem EX(h:kG p=.ok l):AO l/\(if Yv p.id=true then 1 else 2)<l.length:=by unfold kG at h;cases j:lu p.id with|none=>grind|some q=>rw[j]at h;simp only at h;cases d:mV lC q 0 (p.v,[(p.id,fQ 5)]) with|error e=>grind|ok s=>obtain⟨rest,m⟩:=s;rw[d]at h;simp only at h;split at h;(·injection h with h;subst h;refine⟨BQ (I:=λs=>AO s.2) WY q 0 _ _ d (by intro x H;rw[dN]at H;subst H;exact lq 5),?_⟩;have:=yX (m:=λs=>s.2.length) WR q 0 _ _ d;have J:=(ES j).2.2.2;grind);grind
theorem JV(h:kG p=.ok l)(hn:p.v.length<=60000):l.length<=65000:=by unfold kG at h;cases j:lu p.id with|none=>grind|some q=>rw[j]at h;simp only at h;cases d:mV lC q 0 (p.v,[(p.id,fQ 5)]) with|error e=>grind|ok s=>obtain⟨rest,m⟩:=s;rw[d]at h;simp only at h;split at h;(·injection h with h;subst h;obtain⟨H,K,_⟩:=ES j;have J:=EP JO q 0 _ _ H d;simp only[PS,bK,dU]at J;omega);grind
theorem xR(j:AO l): ∀k,0<=arf (l.take k)/\arf (l.take k)<=32*(l.length:Int):=by
 intro k;have h: ∀m:List (Int × Int),AO m->0<=arf m/\arf m<=32*(m.length:Int):=by intro m;induction m with|nil=>intro _;decide|cons x m K=>intro hm;have d:=hm x (by simp);have M:=K (λy J=>hm y (by simp[J]));(have e:arf (x::m)=x.2+arf m:=by rfl);grind
 have d:=h (l.take k) (λx H=>j x (List.mem_of_mem_take H));grind
theorem arO{k:Nat}(h:l[k]? =some x):arf (l.take (k+1))=arf (l.take k)+x.2:=by rw[take_snoc' h];simp[arf]
theorem PY(h:l[i]? =some x)(n:Int):vS l i n=l.set i (n,x.2):=by
 unfold vS;apply List.ext_getElem?;intro d;rw[List.getElem?_modify,List.getElem?_set];by_cases e:i=d;·grind
 ·simp[e]
def vG (w:World) (q:Except Int (List (Int × Int))) (e:Ending) (w':World):Prop:=w w'/\match q with
 | .ok l=> ∃A c,e=.returned (.tuple #[.slice A l.length c,.int .i64 0])/\aq1 iU 245 w' w A c l
 | .error er=>e=.returned (.tuple #[.slice none 0 0,.int .i64 er])
theorem NZ{er:Int}(h:kG p=.error er):er=20\/er=50:=by
 have N: ∀v (s:List Int × List (Int × Int)) er,lC v s=.error er->er=20:=by
  intro v s er h;unfold lC at h;split at h;·cases h
  ·grind
 have M: ∀(f:List Int × List (Int × Int)->Except Int (List Int × List (Int × Int))) (_: ∀s er,f s=.error er->er=20) (n:Nat) (s) (er:Int),jg f n s=.error er->er=20:=by
  intro f J n;induction n with
  |zero=>intro s er h;rw[jg]at h;cases h
  |succ n j=>intro s er h;rw[jg]at h;cases d:f s with|error e=>grind|ok H=>grind
 have K: ∀(q:Pt) (last:Int) (s) (er:Int),mV lC q last s=.error er->er=20:=by
  intro q;induction q with
  |nil=>intro last s er h;rw[mV]at h;cases h
  |pl v r j=>intro last s er h;rw[mV]at h;cases d:lC v s with|error e=>grind|ok U=>grind
  |grp k l r O Q=>intro last s er h;rw[wL]at h;cases d:jg (mV lC l 0) (qC k last) s with|error e=>grind|ok H=>grind
 unfold kG at h;grind
theorem ZM(p:Pk)(A:Option Addr)(n c:Nat)(w:World)(er:Int)(H: ∀W,Tab W->fE aq7 W A p.v->Calls aj 207 #[.agg #[p.id,.slice A n c]] W (oN W (.error er)))(J:Tab w)(M:fE aq7 w A p.v)(Q:er≠0):Calls aj 161 #[.agg #[p.id,.slice A n c]] w (vG w (.error er)):=by
 have d:Own w _ [_]:=Own.jD w 198 #[p.id,.slice A n c];have O:=d.b0.cell;have j:=H _ (J.below d.below) (M.below d.below);unfold oN at j;unfold vG;have U:(er != 0)=true:=by grind
 obtain⟨id,K⟩:=fD p.id;rw[<-K]at j O d ⊢;clear K H J M Q;go_enter func161,ntmps161;go_wp2_with((with_reducible refine j.mono ?_);rintro e V⟨N,v,rfl⟩);go_ret2;exact⟨d.below.trans (N.mono d.below.size),rfl⟩
theorem YE{cur:Array Value}{v:Value}(h:cur[i]? =some v):cur.setIfInBounds i v=cur:=by grind
theorem ZN{g:Nat}(h:fE iU w g l)(d:l[i]? =some x):w.cell? ⟨g,i*2+1,none⟩=some x.2:=by obtain⟨b,off,e,j,hc⟩:=h.get d;injection e with e;injection e with e1 e2;subst e1;subst e2;have:=hc 1 x.2 rfl;rwa [aJ]at this
theorem aq1.acW{base c:Nat}{A:Option Addr}(j:aq1 iU 245 w base A c l)(H:l[i]? =some x): ∃g cur,A=some ⟨g,0,none⟩/\fK w g 245 cur/\base<=g/\ ∀n:Int,aq1 iU 245 (w.setCell ⟨g,i*2,none⟩ n) base g c (vS l i n):=by
 have hi:=(aX.1 H).1;obtain⟨g,cur,rfl,J,d,N,O,Q,U⟩:=j.blk (j.some_ (by omega));refine⟨g,cur,rfl,d,J,λn=>?_⟩;rw[PY H];refine aq1.put j hi (n,x.2) d ?_;have M:=(ZN j.rows H);have e:arh cur (i*iU.k) (iU.enc (n,x.2))=cur.setIfInBounds (i*2) n:=by
  show(cur.setIfInBounds (i*2) n).setIfInBounds (i*2+1) x.2=_;have K:cur[i*2+1]? =some x.2:=by rw[<-d.cell];exact M
  refine YE ?_;rw[dR (by omega)];exact K
 rw[e];exact d.iV _ _
theorem acX(p:Pk)(A:Option Addr)(n c:Nat)(w:World)(l:List (Int × Int))(hl:kG p=.ok l)(h0: ∀W,Tab W->fE aq7 W A p.v->Calls aj 207 #[.agg #[p.id,.slice A n c]] W (oN W (.ok l)))(hT:Tab w)(hp:fE aq7 w A p.v)(a7:p.v.length<=60000):Calls aj 161 #[.agg #[p.id,.slice A n c]] w (vG w (if 8184<arf l then .error 2 else .ok (vS l (if Yv p.id=true then 1 else 2) (arf l)))):=by
 have J:Own w _ [_]:=Own.jD w 198 #[p.id,.slice A n c];have a5:=J.b0.cell;have M:=h0 _ (hT.below J.below) (hp.below J.below);obtain⟨aL,ae⟩:=EX hl;have a6:=JV hl a7;obtain⟨at_,U⟩: ∃a,a=if Yv p.id=true then 1 else 2:=⟨_,rfl⟩
 rw[<-U]at ae ⊢;have Y:=λW=>ajh p.id W;unfold oN at M;obtain⟨up,hu⟩:=fD (Yv p.id);rw[<-hu]at Y U;obtain⟨id,ax⟩:=fD p.id;rw[<-ax]at M a5 J Y ⊢;obtain⟨m,hm⟩:=fD l.length;rw[<-hm]at ae a6;have O:=ah hm;have HW:Hid (∀k,0<=arf (l.take k)/\arf (l.take k)<=32*(m:Int)):=ah (by rw[hm];exact xR aL);simp only at M;rw[<-hm]at M;obtain⟨R,hR⟩: ∃R:Except Int (List (Int × Int)),R=if 8184<arf l then .error 2 else .ok (vS l at_ (arf l)):=⟨_,rfl⟩
 rw[<-hR];have HR:=ah hR;have ai:=ah U;clear ax h0 hT hp hu hl aL hm hR U;go_enter func161,ntmps161;go_wp2_with((with_reducible refine M.mono ?_);rintro e w4⟨a4,A4,c4,rfl,Z⟩);have an:=J.grow a4;go_loopw [6,20] (λs i wr=> ∃k:Nat,i=.int .i64 k/\k<=m/\s=.int .i64 (arf (l.take k))/\Own w wr [(w,198,#[id,.slice A n c])]/\w4 wr) (λ_ i _=>m-(intOf i).toNat);case atStart=>exact⟨0,rfl,aV _,rfl,an,aH _ _⟩
 case round=>
  obtain⟨k,rfl,hk,rfl,aa,K⟩:=hrel;have ac:=HW.out k;by_cases az:k<m;·obtain⟨x,H⟩:=aq5 O.out.symm az;have N:=Z.below K;obtain⟨g,off,V,hg,hc⟩:=N.rows.get H;have a0:=hc 0 _ rfl;have a1:=hc 1 _ rfl;simp only[iU,bI]at a0 a1;subst V;have aE:=arO H;have aq:=HW.out (k+1);rw[aE]at aq;have aR:=ah aE;have ba:=(fK.new wr 245 #[x.1,x.2]).cell;obtain⟨sk,aD⟩:=fD (arf (l.take k));rw[<-aD]at ac aq ⊢;have aM:=ah aD;go_wp2_with fail;go_roundw;(case rel=>exact⟨k+1,by go_num,by omega,by rw[aR.out,<-aM.out],aa.grow jm,K.trans (gY.alloc K.size _)⟩);case measure=>simp[intOf];omega
  ·(obtain rfl:k=m:=by omega);have ap:l.take k=l:=aY (by rw[O.out];omega);rw[ap]at ac ⊢;obtain⟨d,af⟩:=fD (arf l);rw[<-af]at ac ⊢;have al:=ah af;have N:=Z.below K;have a9:=aa.b0.cell;have ad:w wr:=aa.below;clear af ap az Z an;by_cases j:8184<d;·(have d8:decide (8184<d)=true:=by simpa using j);clear j;have Q:Hid (R=.error 2):=ah (by rw[HR.out,<-al.out,if_pos (by simpa using d8)]);go_wp2_with fail;go_ret2;rw[Q.out];exact⟨ad,rfl⟩
   ·(have d8:decide (8184<d)=false:=by simpa using j);replace j:=Int.not_lt.1 j;have Q:Hid (R=.ok (vS l at_ d)):=ah (by rw[HR.out,<-al.out,if_neg (Int.not_lt.2 j)]);have ak:Hid ((vS l at_ d).length=k):=ah (by rw[O.out];simp[vS]);obtain⟨x,H⟩:=aq5 O.out.symm ae;have a8:=N.rows.get H;obtain⟨g,cur,rfl,av,V,aw⟩:=N.acW H;obtain⟨g',bc,e',bb,ar⟩:=a8;injection e' with e';injection e' with e1 e2;subst e1;subst e2;have a0:=ar 0 _ rfl;simp only[iU,bI,aJ]at a0;have au:=av.frozen (at_*2);(have am:w.heap.size<=g:=by have:=V;simp at this;omega);clear ar H N V av K;cases up with
    |false=>obtain rfl:at_=2:=ai.out;simp only[Nat.reduceMul]at a0 au;go_wp2_with((with_reducible refine(Y _).mono ?_);rintro e w5⟨rfl,ag⟩;obtain rfl:=ag.symm);go_ret2;rw[Q.out];exact⟨ad.setCell (p:=⟨g,4,none⟩) am _,_,_,by rw[ak.out];rfl,(aw d).mono (by simp)⟩
    |true=>obtain rfl:at_=1:=ai.out;simp only[Nat.one_mul]at a0 au;go_wp2_with((with_reducible refine(Y _).mono ?_);rintro e w5⟨rfl,ag⟩;obtain rfl:=ag.symm);go_ret2;rw[Q.out];exact⟨ad.setCell (p:=⟨g,2,none⟩) am _,_,_,by rw[ak.out];rfl,(aw d).mono (by simp)⟩
theorem PZ(p:Pk)(A:Option Addr)(n c:Nat)(w:World)(j:Tab w)(H:fE aq7 w A p.v)(hn:p.v.length=n)(M:n<=60000)(hc:n<=c/\c<=maxLen):Calls aj 161 #[.agg #[p.id,.slice A n c]] w (vG w (mO p)):=by have d:=λW (J:Tab W) (K:fE aq7 W A p.v)=>acQ p A n c W J K hn M hc;unfold mO;cases hi:kG p with|error er=>rw[hi]at d;exact ZM p A n c w er d j H (by rcases NZ hi with rfl |rfl <;> decide)|ok l=>rw[hi]at d;exact acX p A n c w l hi d j H (by omega)
def vV (p:Pk):List (Int × Int):=match mO p with | .ok l=>l | .error _=> []
def CY (p:Pk):Int:=arf (vV p)
theorem JW(l:List (Int × Int))(i:Nat)(n:Int):arf (vS l i n)=arf l:=by unfold vS arf;congr 1;induction l generalizing i with|nil=>simp|cons x l d=>grind
theorem EY(p:Pk)(hn:p.v.length<=60000):AO (vV p)/\(vV p).length<=65000:=by
 unfold vV mO;cases hi:kG p with
 |error er=>exact⟨λx d=>(by cases d),aV _⟩
 |ok l=>
  obtain⟨H,J⟩:=EX hi;have hm:=JV hi hn;simp only;by_cases j:8184<arf l;·rw[if_pos j];exact⟨λx d=>(by cases d),aV _⟩
  ·rw[if_neg j];refine⟨?_,by simp[vS];exact hm⟩;obtain⟨x,d⟩:=aq5 rfl J;rw[PY d];intro y K;rcases List.mem_or_eq_of_mem_set K with h |h;(·exact H y h);·subst h;exact H x (bP d)
theorem aji(p:Pk)(A:Option Addr)(n c:Nat)(w:World)(hT:Tab w)(hp:fE aq7 w A p.v)(hn:p.v.length=n)(ag:n<=60000)(hc:n<=c/\c<=maxLen):Calls aj 220 #[.agg #[.int .i64 p.id,.slice A n c]] w λe w'=>e=.returned (CY p:Int)/\w w':=by
 have d:Own w _ [_]:=Own.jD w 198 #[.int .i64 p.id,.slice A n c];have ap:=d.b0.cell;obtain⟨O,af⟩:=EY p (by omega);have J:Calls aj 161 #[.agg #[.int .i64 p.id,.slice A n c]] (w.alloc (.cells #[.int .i64 p.id,.slice A n c] 198)) λe w'=>Below (w.heap.size+1) (w.alloc (.cells #[.int .i64 p.id,.slice A n c] 198)) w'/\ ∃A c er,e=.returned (.tuple #[.slice A (vV p).length c,.int .i64 er])/\fE iU w' A (vV p):=by refine(PZ p A n c _ (hT.below d.below) (hp.below d.below) hn ag hc).mono ?_;rintro e w'⟨h1,j⟩;refine⟨by simp_all,?_⟩;unfold vV;cases hi:mO p with|error er=>rw[hi]at j;exact⟨none,0,er,j,fE.nil _ _⟩|ok l=>rw[hi]at j;obtain⟨A',c',h3,h4⟩:=j;exact⟨A',c',0,h3,h4.rows⟩
 unfold CY;obtain⟨id,ad⟩:=fD p.id;rw[<-ad]at J ap d ⊢;obtain⟨l,hl⟩:=fD (vV p);rw[<-hl]at J O af ⊢;obtain⟨m,hm⟩:=fD l.length;rw[<-hm]at J af;have V:=ah hm;have Y:Hid (∀k,0<=arf (l.take k)/\arf (l.take k)<=32*(m:Int)):=ah (by rw[hm];exact xR O);clear ad hT hp hl O hm hn ag hc;go_enter func220,ntmps220;go_wp2_with((with_reducible refine J.mono ?_);rintro e U⟨an,A4,c4,er,rfl,K⟩);have Z:w U:=d.below.trans (an.mono (by omega));go_loopw [5,15] (λs i wr=> ∃k:Nat,i=.int .i64 k/\k<=m/\s=.int .i64 (arf (l.take k))/\U wr) (λ_ i _=>m-(intOf i).toNat);case atStart=>exact⟨0,rfl,aV _,rfl,aH _ _⟩
 case round=>
  obtain⟨k,rfl,hk,rfl,H⟩:=hrel;have aa:=Y.out k;by_cases ae:k<m;·obtain⟨x,Q⟩:=aq5 V.out.symm ae;have ai:=K.below H;obtain⟨g,off,aq,hg,hc⟩:=ai.get Q;have a0:=hc 0 _ rfl;have a1:=hc 1 _ rfl;simp only[iU,bI]at a0 a1;subst aq;have N:=arO Q;have ac:=Y.out (k+1);rw[N]at ac;have al:=ah N;have ar:=(fK.new wr 245 #[.int .i64 x.1,.int .i64 x.2]).cell;obtain⟨sk,M⟩:=fD (arf (l.take k));rw[<-M]at aa ac ⊢;have ak:=ah M;clear N M hc Q ai K;go_wp2_with fail;go_roundw;(case rel=>exact⟨k+1,by go_num,by omega,by rw[al.out,<-ak.out],H.trans (gY.alloc H.size _)⟩);case measure=>simp[intOf];omega
  ·(obtain rfl:k=m:=by omega);have am:l.take k=l:=aY (by rw[V.out];simp);rw[am]at aa ⊢;clear ae K;go_wp2_with fail;go_ret;exact⟨rfl,Z.trans (H.mono Z.size)⟩
def DU (bs:List UInt8) (at_:Nat):Except Int (Pk × Nat):=match zK (bs.drop (at_ / 8)) 5 ⟨at_ % 8,[],0⟩ with
 | .error e=> .error e
 | .ok (id,s)=>match lu id with
   |none=> .error 50
   |some q=>match mV (zK (bs.drop (at_ / 8))) q 0 {s with v:= []} with
     | .error e=> .error e
     | .ok s'=>if s'.size≠((s'.at_-at_ % 8:Nat):Int) then .error 20 else if 8184<s'.at_-at_ % 8 then .error 2 else .ok (⟨id,s'.v⟩,at_+(s'.at_-at_ % 8))
def Pt.calm:Pt->Bool
 | .nil=>true
 | .pl v r=>r.calm&&(decide (v≠7) || match r with | .grp _ _ _=>false |_=>true)
 | .grp _ l r=>l.calm&&r.calm
def Pt.first:Pt->Bool
 | .grp _ _ _=>false
 |_=>true
theorem EZ(l m:List (Int × Int)):arf (l++m)=arf l+arf m:=by simp[arf]
theorem P5{v:Int}{s s':Up}{n:Int}(h:zK bs v s=.ok (n,s')): ∃H:List Int,s'.v=s.v++H/\s'.at_=s.at_+(fQ v).toNat/\1<=(fQ v).toNat/\H.length<=1/\s'.at_<=8*bs.length/\ ∀R L,lC v (H++R,L)=.ok (if v=7 then 0 else n,R,L++ [(if v=7 then 0 else n,fQ v)]):=by
 unfold zK at h;by_cases M:uY bs.length s.at_ (fQ v)=0
 ·rw[if_neg (by omega)]at h;obtain⟨K,N⟩:=PU M;have O:s.at_+(fQ v).toNat<=8*bs.length:=by unfold uY at M;omega
  cases hm:uX v (EM bs s.at_ (fQ v)) with|false=>grind|true=>rw[hm]at h;simp only[Bool.true_eq_false,if_false]at h;injection h with h;injection h with J j;by_cases d:v=7;(·rw[if_pos d]at j;subst j;refine⟨[],by simp,K,N,by simp,by grind,λR L=>?_⟩;unfold lC;rw[if_pos d,if_pos d];rfl);·rw[if_neg d]at j;subst j;refine⟨[n],by simp[J],K,N,by simp,by grind,λR L=>?_⟩;unfold lC;rw[if_neg d,if_neg d];simp only[bQ,aZ];rw[<-J,if_pos hm]
 grind
def Sim (N:Nat) (s s':Up) (f:List Int × List (Int × Int)->Except Int (List Int × List (Int × Int))):Prop:= ∃(K:List Int) (M:List (Int × Int)),s'.v=s.v++K/\s.at_<=s'.at_/\arf M=((s'.at_-s.at_:Nat):Int)/\K.length<=s'.at_-s.at_/\(s.at_<=8*N->s'.at_<=8*N)/\ ∀R L,f (K++R,L)=.ok (R,L++M)
theorem N7{l:Pt}(h: ∀s s',mV (zK bs) l 0 s=.ok s'->Sim bs.length s s' (mV lC l 0)): ∀(n:Nat) (s s':Up),jg (mV (zK bs) l 0) n s=.ok s'->Sim bs.length s s' (jg (mV lC l 0) n)
 |0,s,s',e=>by rw[jg]at e;cases e;exact⟨[],[],by simp,aW _,by simp[arf],by simp,id,λR L=>by rw[jg];simp⟩
 |n+1,s,s',e=>by rw[jg]at e;cases d:mV (zK bs) l 0 s with|error x=>grind|ok O=>rw[d]at e;obtain⟨j,J,Q,a2,a3,U,N,M⟩:=h _ _ d;obtain⟨H,K,b1,b2,b3,b5,b6,b4⟩:=N7 h n O s' e;refine⟨j++H,J++K,by grind,aG a2 b2,by rw[EZ,a3,b3];omega,by grind,λh=>b6 (N h),λR L=>?_⟩;rw[jg,List.append_assoc,M];simp only;rw[b4,List.append_assoc]
theorem JX: ∀(p:Pt) (last d:Int) (s s':Up),p.calm=true->(last=d\/p.first=true)->mV (zK bs) p last s=.ok s'->Sim bs.length s s' (mV lC p d)
 | .nil,last,d,s,s',_,_,e=>by rw[mV]at e;cases e;exact⟨[],[],by simp,aW _,by simp[arf],by simp,id,λR L=>by rw[mV];simp⟩
 | .pl v r,last,d,s,s',hc,Q,e=>by rw[mV]at e;cases j:zK bs v s with|error x=>grind|ok Z=>obtain⟨n,O⟩:=Z;rw[j]at e;simp only[Pt.calm,bM,Bool.or_eq_true,decide_eq_true_eq]at hc;obtain⟨J,V,a2,a3,Y,N,M⟩:=P5 j;obtain⟨K,H,b1,b2,b3,b5,b6,b4⟩:=JX r n (if v=7 then 0 else n) O s' hc.1 (by by_cases h7:v=7;(·rcases hc.2 with h |h;(·omega);·right;assumption);omega) e;refine⟨J++K,(if v=7 then 0 else n,fQ v)::H,by grind,by omega,?_,by grind,λh=>b6 N,λR L=>?_⟩;(·have hw:=lq v;show arf ([_]++H)=_;rw[EZ,b3];simp only[arf,List.map_cons,List.map_nil,List.sum_cons,List.sum_nil];omega);·rw[mV,List.append_assoc,M];simp only;rw[b4];simp
 | .grp k l r,last,d,s,s',hc,Q,e=>by
  rw[wL]at e;simp only[Pt.calm,bM]at hc;obtain rfl:last=d:=by rcases Q with h |h;(·exact h);·cases h
  cases j:jg (mV (zK bs) l 0) (qC k last) s with|error x=>grind|ok O=>rw[j]at e;obtain⟨J,U,V,a2,a3,Y,N,M⟩:=N7 (λa b h=>JX l 0 0 a b hc.1 (.inl rfl) h) _ _ _ j;obtain⟨K,H,b1,b2,b3,b5,b6,b4⟩:=JX r last last O s' hc.2 (.inl rfl) e;refine⟨J++K,U++H,by grind,aG a2 b2,by rw[EZ,a3,b3];omega,by grind,λh=>b6 (N h),λR L=>?_⟩;rw[wL,List.append_assoc,M];simp only;rw[b4,List.append_assoc]
theorem TB: ∀id:Fin 81,(match lu (id.val:Int) with |none=>true |some q=>q.calm&&q.first)=true:=by decide
theorem JY{id:Int}{q:Pt}(h:lu id=some q):q.calm=true/\q.first=true:=by obtain⟨d,j⟩:=yV h;have:=TB ⟨id.toNat,by omega⟩;grind
theorem N8{at_:Nat}{e:Nat}(h:DU bs at_=.ok (p,e))(ha:at_<=8*bs.length):CY p=((e-at_:Nat):Int)/\at_+8<=e/\e<=8*bs.length/\(∃l,mO p=.ok l)/\p.v.length<=8184:=by
 unfold DU at h;have hd:(bs.drop (at_ / 8)).length=bs.length-at_ / 8:=by simp
 cases J:zK (bs.drop (at_ / 8)) 5 ⟨at_ % 8,[],0⟩ with
 |error x=>grind
 |ok U=>
  obtain⟨id,s⟩:=U;rw[J]at h;simp only at h;obtain⟨V,Z,a2,a3,a5,M,a4⟩:=P5 J;have K:fQ 5=8:=by decide
  rw[K]at a2;cases j:lu id with|none=>grind|some q=>rw[j]at h;simp only at h;cases H:mV (zK (bs.drop (at_ / 8))) q 0 {s with v:= []} with|error x=>grind|ok s'=>rw[H]at h;simp only at h;obtain⟨hc,hf⟩:=JY j;obtain⟨Y,d,b1,b2,b3,b5,b6,b4⟩:=JX q 0 0 {s with v:= []} s' hc (.inl rfl) H;simp only at b1 b2 b3 b5 b6;split at h;(·cases h);·split at h;(·cases h);·rename_i h1 h2;injection h with h;injection h with O he;subst O;have h6:=b6 M;(have N:kG ⟨id,s'.v⟩=.ok ([(id,fQ 5)]++d):=by unfold kG;simp only[j];have:=b4 [] [(id,fQ 5)];rw[List.append_nil]at this;rw[b1,aZ,this];simp);(have Q:arf ([(id,fQ 5)]++d)=((s'.at_-at_ % 8:Nat):Int):=by rw[EZ,b3,K];simp only[arf,List.map_cons,List.map_nil,List.sum_cons,List.sum_nil];simp only at a2;omega);(have hi:mO ⟨id,s'.v⟩=.ok (vS ([(id,fQ 5)]++d) (if Yv id=true then 1 else 2) (arf ([(id,fQ 5)]++d))):=by unfold mO;rw[N];simp only;rw[if_neg (by omega)]);simp only at a2;refine⟨?_,by omega,by omega,⟨_,hi⟩,?_⟩;(·unfold CY vV;rw[hi];simp only;rw[JW,Q];omega);·show s'.v.length<=8184;rw[b1,aZ];omega
section
theorem ajj(A:Option Addr)(n c:Nat)(w:World)(hc:n<=c):Calls aj 219 #[.slice A n c] w λe w'=>e=.returned (.slice A n n)/\w'=w:=by
 have d:(Instr.slice 22 (.slice A n c) none (some (n:Int)) (some (n:Int))).run aj w=.ok (.slice A n n) w:=by rw[run_slice_hm w 22 A n c PO .i64 .i64 n n (by omega) (by omega) (by omega),Gn];have:=BO A n;unfold qQ at this;simp[Result.andThen,sliced,this]
 go_enter func219,ntmps219;go_wp2_with fail;go_ret;simp
theorem ajk(be bp j:Nat)(w:World)(H:fK w be 51 #[zI]):CallsD aj 213 #[.pointer be,.pointer bp,.pointer j] .returning w λe d w'=>d=.returning/\e=.returned (.tuple #[])/\w'=w:=by have hc:=H.cell;refine CallsD.mono (R:=λe d w'=>d=.returning/\(λ(e:Ending) (w':World)=>e=.returned (.tuple #[])/\w'=w) e w') ?_ (λ_ _ _ h=>h);go_enter_d func213,ntmps213;go_wp2_with fail;go_end0;simp
theorem af5(be bp d:Nat)(er id x:Int)(v:Value)(w:World)(U:er≠0)(N:fK w be 51 #[er])(H:fK w bp 198 #[id,v])(hn:fK w d 3 #[x])(j:bp≠d)(hv:v.oneCell'=true):CallsD aj 213 #[.pointer be,.pointer bp,.pointer d] .returning w λe J w'=>J=.returning/\e=.returned (.tuple #[])/\fK w' bp 198 gH/\fK w' d 3 #[zI]/\(∀k,k≠bp->k≠d->w'.heap[k]? =w.heap[k]?)/\w'.heap.size=w.heap.size/\w'.os=w.os/\w'.tape=w.tape/\w'.output=w.output:=by
 have hc:=N.cell;have O:(er != 0)=true:=by grind
 have Y:=H.cell;have Z:=H.frozen;have Q:=hn.cell;have V:=hn.frozen;refine CallsD.mono (R:=λe J w'=>J=.returning/\(λ(e:Ending) (w':World)=>e=.returned (.tuple #[])/\fK w' bp 198 gH/\fK w' d 3 #[zI]/\(∀k,k≠bp->k≠d->w'.heap[k]? =w.heap[k]?)/\w'.heap.size=w.heap.size/\w'.os=w.os/\w'.tape=w.tape/\w'.output=w.output) e w') ?_ (λ_ _ _ h=>h);go_enter_d func213,ntmps213;go_wp2_with fail;go_end0;have k1:=((H.iV 0 zI).iV 1 nS).far (p:=⟨d,0,none⟩) j zI;have k2:=((hn.far (p:=⟨bp,0,none⟩) j.symm zI).far (p:=⟨bp,1,none⟩) j.symm nS).iV 0 zI;refine⟨rfl,k1,k2,λk K M=>?_,by simp,rfl,rfl,rfl⟩;exact(aN _ ⟨d,0,none⟩ _ k M).trans ((aN _ ⟨bp,1,none⟩ _ k K).trans (aN w ⟨bp,0,none⟩ _ k K))
theorem JZ{w d:World}{pr br:Nat}{bs:List UInt8}{r:Nat}{Ab:Option Addr}{cb:Nat}{fc:Value}(N:Tab w)(M:Own w d [(w,198,gH),(w.heap.size+1,3,#[zI]),(w.heap.size+1+1,51,#[zI])])(H:fK d br 257 #[.pointer pr])(J:rY d pr bs r Ab cb)(ae:w.heap.size+3<=pr)(ac:w.heap.size+3<=br)(Y:br≠pr)(aa: ∀a,Ab=some a->w.heap.size+3<=a.block)(V:bs.length<=8000)(Z:r<=8*bs.length):Me (d.heap.size+2) br d w pr bs Ab cb 0 none 0 ⟨r,[],0⟩ (λk=>k=pr\/k=d.heap.size\/k=w.heap.size) ((d.alloc (.cells #[zI] 3)).alloc (.cells #[fc] 316)):=by
 have Q:0<w.heap.size:=by obtain⟨b,off,e,j,_⟩:=N (by decide);omega
 have j:d ((d.alloc (.cells #[zI] 3)).alloc (.cells #[fc] 316)):=jm.alloc (by simp) _;have K:=M.b0;have ad:=K.lt;have O:=fK.new d 3 #[zI];have U:bs≠ []-> ∀a,Ab=some a->a.block<d.heap.size+2/\a.block≠d.heap.size/\a.block≠w.heap.size:=λhx a e=>by obtain⟨b,off,e2,h2,_⟩:=J.bytes.row (by rw[aq8];grind);grind
 exact {foot:=λk=>by simp,rp:=H.below j H.lt,rd:=J.below j,zb:=O.below jm O.lt,pb:=K.below j K.lt,own:=aq1.nil _ _,lt:=⟨by have:=H.lt;omega,by omega,by omega,by have:=J.blk.lt;omega⟩,ne:=⟨Y,by have:=H.lt;omega,by omega,by have:=J.blk.lt;omega,by omega,by omega⟩,pos:=⟨by omega,by omega,Q,by omega⟩,ab:=U,size:=by simp,tab:=(N.below M.below).below j,len:=V,inn:=Z,vl:=aV _}
def xU (w:World) (q:Except Int (Pk × Nat)) (e:Ending) (w':World):Prop:=w w'/\match q with
 | .ok (p,en)=> ∃A,e=.returned (.tuple #[.agg #[.int .i64 p.id,.slice A p.v.length p.v.length],.int .i64 en,.int .i64 0])/\fE aq7 w' A p.v/\(∀a,A=some a->w.heap.size<=a.block)
 | .error er=>e=.returned (.tuple #[.agg gH,.int .i64 0,.int .i64 er])
theorem E5(tmps:Array Value)(w:World)(bp d be:Nat)(id j er:Int)(v:Value)(Y:tmps.getD 4 undef=.pointer bp)(Z:tmps.getD 5 undef=.pointer d)(hc:tmps.getD 6 undef=.pointer be)(H:fK w bp 198 #[id,v])(hn:fK w d 3 #[j])(V:fK w be 51 #[er]):(results f169 tmps).run aj w=.ok (.tuple #[.agg #[id,v],j,er]) w:=by
 have O:tmps[4]?.getD undef=.pointer bp:=by simp_all
 have Q:tmps[5]?.getD undef=.pointer d:=by simp_all
 have U:tmps[6]?.getD undef=.pointer be:=by simp_all
 have J:=H.cell 0;have K:=H.cell 1;have M:=hn.cell 0;have N:=V.cell 0;simp[results,results169,O,Q,U,asAddr,go_sem,J,K,M,N]
section
variable {tmps:Array Value} {w w8:World} {R:Except Int (Pk × Nat)}
theorem TD(er id x:Int)(v:Value)(O:er≠0)(J:R=.error er)(K:tmps.getD 4 undef=.pointer w)(M:tmps.getD 5 undef=.pointer (some ⟨w.heap.size+1,0,none⟩))(hc:tmps.getD 6 undef=.pointer (some ⟨w.heap.size+1+1,0,none⟩))(Q:fK w8 w 198 #[id,v])(U:v.oneCell'=true)(hn:fK w8 (w.heap.size+1) 3 #[x])(d:fK w8 (w.heap.size+1+1) 51 #[er])(N:w w8):Leaves aj f169 tmps (xU w R) [{target:=.fn (.func 213) #[.pointer (some ⟨w.heap.size+1+1,0,none⟩),.pointer w,.pointer (some ⟨w.heap.size+1,0,none⟩)],args:= #[]}] .returning w8:=by refine leaves_cons (f:=213) (args:= #[.pointer (some ⟨w.heap.size+1+1,0,none⟩),.pointer w,.pointer (some ⟨w.heap.size+1,0,none⟩)]) (by simp) (by simp[go_sem]) ?_;refine(af5 _ _ _ er id x v w8 O d Q hn (by omega) U).mono ?_;rintro e u' H⟨rfl,rfl,kp,Y,j,ks,Z,kt,ku⟩;have V:fK H (w.heap.size+1+1) 51 #[er]:=(j _ (by omega) (by omega)).trans d;refine⟨_,E5 tmps H _ _ _ 0 0 er _ K M hc kp Y V,?_⟩;rw[J];exact⟨N.trans ⟨Z,kt,ku,bZ ks.symm,λk hk=>j k (by omega) (by omega)⟩,rfl⟩
theorem J3(er id x y:Int)(v:Value)(O:er≠0)(K:R=.error er)(M:tmps.getD 4 undef=.pointer w)(N:tmps.getD 5 undef=.pointer (some ⟨w.heap.size+1,0,none⟩))(hc:tmps.getD 6 undef=.pointer (some ⟨w.heap.size+1+1,0,none⟩))(J:fK w8 w 198 #[id,v])(Q:v.oneCell'=true)(hn:fK w8 (w.heap.size+1) 3 #[x])(j:fK w8 (w.heap.size+1+1) 51 #[y])(H:w w8):Leaves aj f169 tmps (xU w R) [{target:=.fn (.func 214) #[],args:= #[.pointer (some ⟨w.heap.size+1+1,0,none⟩)]},{target:=.fn (.func 213) #[.pointer (some ⟨w.heap.size+1+1,0,none⟩),.pointer w,.pointer (some ⟨w.heap.size+1,0,none⟩)],args:= #[]}] (.panicking [{v:=.iface 314 (.agg #[er]),recovered:=false}]) w8:=by refine leaves_cons (f:=214) (args:= #[.pointer (some ⟨w.heap.size+1+1,0,none⟩)]) (by simp) (by simp[go_sem]) ?_;refine(vg (w.heap.size+1+1) er y [] w8 j).mono ?_;rintro e U V⟨rfl,rfl,rfl⟩;have d:=(aH w8 w8).alloc ig (.cells #[er] 314);exact TD er id x v O K M N hc ((J.below d J.lt).far (p:=⟨w.heap.size+1+1,0,none⟩) (by grind) _) Q ((hn.below d hn.lt).far (p:=⟨w.heap.size+1+1,0,none⟩) (by simp) _) ((j.below d j.lt).iV 0 _) ((H.alloc H.size _).setCell (p:=⟨w.heap.size+1+1,0,none⟩) (by grind) _)
theorem J4(er id x:Int)(v:Value)(M:er≠0)(d:R=.error er)(j:tmps.getD 4 undef=.pointer w)(H:tmps.getD 5 undef=.pointer (some ⟨w.heap.size+1,0,none⟩))(hc:tmps.getD 6 undef=.pointer (some ⟨w.heap.size+1+1,0,none⟩))(N:fK w8 w 198 #[id,v])(O:v.oneCell'=true)(hn:fK w8 (w.heap.size+1) 3 #[x])(K:fK w8 (w.heap.size+1+1) 51 #[er])(J:w w8):Leaves aj f169 tmps (xU w R) [{target:=.fn (.func 214) #[],args:= #[.pointer (some ⟨w.heap.size+1+1,0,none⟩)]},{target:=.fn (.func 213) #[.pointer (some ⟨w.heap.size+1+1,0,none⟩),.pointer w,.pointer (some ⟨w.heap.size+1,0,none⟩)],args:= #[]}] .returning w8:=by refine leaves_cons (f:=214) (args:= #[.pointer (some ⟨w.heap.size+1+1,0,none⟩)]) (by simp) (by simp[go_sem]) ?_;refine(Az (w.heap.size+1+1) w8).mono ?_;rintro e Q U⟨rfl,rfl,rfl⟩;exact TD er id x v M d j H hc N O hn K J
theorem ZO(p:Pk)(d:Nat)(A:Option Addr)(O:R=.ok (p,d))(J:tmps.getD 4 undef=.pointer w)(K:tmps.getD 5 undef=.pointer (some ⟨w.heap.size+1,0,none⟩))(hc:tmps.getD 6 undef=.pointer (some ⟨w.heap.size+1+1,0,none⟩))(M:fK w8 w 198 #[p.id,.slice A p.v.length p.v.length])(hn:fK w8 (w.heap.size+1) 3 #[d])(j:fK w8 (w.heap.size+1+1) 51 #[zI])(Q:w w8)(U:fE aq7 w8 A p.v)(hA: ∀a,A=some a->w.heap.size<=a.block):Leaves aj f169 tmps (xU w R) [{target:=.fn (.func 214) #[],args:= #[.pointer (some ⟨w.heap.size+1+1,0,none⟩)]},{target:=.fn (.func 213) #[.pointer (some ⟨w.heap.size+1+1,0,none⟩),.pointer w,.pointer (some ⟨w.heap.size+1,0,none⟩)],args:= #[]}] .returning w8:=by refine leaves_cons (f:=214) (args:= #[.pointer (some ⟨w.heap.size+1+1,0,none⟩)]) (by simp) (by simp[go_sem]) ?_;refine(Az (w.heap.size+1+1) w8).mono ?_;rintro e N H⟨rfl,rfl,rfl⟩;simp only[settle];refine leaves_cons (f:=213) (args:= #[.pointer (some ⟨w.heap.size+1+1,0,none⟩),.pointer w,.pointer (some ⟨w.heap.size+1,0,none⟩)]) (by simp) (by simp[go_sem]) ?_;refine(ajk _ _ _ H j).mono ?_;rintro e N H⟨rfl,rfl,rfl⟩;refine⟨_,E5 tmps _ _ _ _ p.id d 0 _ J K hc M hn j,?_⟩;constructor<;>grind
end
end
end Go.Proofs.YthnmgjngniciaaaGreatDoor
