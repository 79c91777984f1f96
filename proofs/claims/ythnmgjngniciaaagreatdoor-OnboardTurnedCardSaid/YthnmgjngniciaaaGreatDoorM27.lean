/- Parts. -/
import Derived.Test.YthnmgjngniciaaaGreatDoorM18
import Derived.Test.YthnmgjngniciaaaGreatDoorM22
import Derived.Test.YthnmgjngniciaaaGreatDoorM23
import Derived.Test.YthnmgjngniciaaaGreatDoorM25
import Derived.Test.YthnmgjngniciaaaGreatDoorM26
import Derived.Test.YthnmgjngniciaaaGreatDoorM17
import Derived.Test.YthnmgjngniciaaaGreatDoorM14
set_option linter.all false
set_option maxHeartbeats 16000000
set_option maxRecDepth 8000
open Bool renaming false_eq_true→bU
open List renaming getElem?_append_left→dP,getElem?_eq_some_iff→aX,mem_append→dK,mem_cons→bJ,mem_singleton→dN,take_of_length_le→aY
open Nat renaming add_zero→bI,le_of_eq→bZ,le_trans→aG,lt_of_lt_of_le→aU,zero_add→aJ,zero_le→aV
namespace Go.Proofs.YthnmgjngniciaaaGreatDoor
open Go.RowKit Go.Shelf Tryz
open Below renaming heap_setCell→aN,refl→aH
open Go.Lib renaming hid→ah
open Region renaming wanted→aF
open Result renaming andThen_ok→dO
open Tryz renaming prog→aj
open World renaming setCell→dD
variable{now:Int}{Bq g:Nat}{x:Option Addr × Nat × Nat}{tm:jl}{W w0:World}
section
def cbC (tm:jl) (now:Int) (x:Tr) (m:kZ) (Ao:Option Addr) (no co:Nat):Array Value:= #[.slice tm.A1 tm.n1 tm.c1,.slice tm.A2 tm.n2 tm.c2,.slice tm.A3 tm.n3 tm.c3,.slice tm.A4 tm.n4 tm.c4,.int .i64 x.id,.int .i64 x.len,.int .i64 x.rl.ahead,.int .i64 x.rl.behind,.int .i64 x.rl.period,.int .i64 x.rl.most,.int .i64 x.rl.quiet,.int .i64 x.rl.oJ,.int .i64 x.rl.wI,.int .i64 x.rl.skew,.int .i64 x.rl.lend,.int .i64 x.side,.int .i64 x.fG,q32 m.q.k0,q32 m.q.k1,q32 m.q.k2,q32 m.q.k3,.int .i64 m.q.state,q32 m.q.a,q32 m.q.b,q32 m.q.j0,q32 m.q.j1,q32 m.q.j2,q32 m.q.j3,.bool m.q.half,q32 m.q.a2,q32 m.q.b2,q32 m.nx,.int .i64 x.sl,.int .i64 x.sa,.int .i64 x.sb,.bool x.free,.int .i64 x.last,.bool x.on,.int .i64 x.pos.edge,.int .i64 x.pos.at_,.bool x.pos.rev,.int .i64 x.ref,.int .i64 x.past,.bool x.rev,.int .i64 x.ma.ref,.bool x.ma.rev,.slice m.v.A1 m.v.n1 m.v.c1,.slice m.v.A2 m.v.n2 m.v.c2,.int .i64 x.ma.gap,.int .i64 x.at_,.bool x.held,.slice m.A3 m.n3 m.c3,.int .i64 now,.slice Ao no co]
section
variable (tm:jl) (now:Int) (x:Tr) (m:kZ) (Ao:Option Addr) (no co:Nat)
theorem cb8:(cbC tm now x m Ao no co)[8]? =some (.int .i64 x.rl.period):=rfl
theorem aqC:(cbC tm now x m Ao no co)[12]? =some (.int .i64 x.rl.wI):=rfl
end
structure Cp where
  x:Tr
  q:Zx
  nx:BitVec 32
  out:List (List UInt8)
def aks (x:Tr) (q:Zx):gG:=⟨x.side,x.fG,⟨q.k0,q.k1,q.k2,q.k3⟩,q.state,q.a,q.b,⟨q.j0,q.j1,q.j2,q.j3⟩,q.half,q.a2,q.b2⟩
def ar7 (p:gG):Zx:=⟨p.base.k0,p.base.k1,p.base.k2,p.base.k3,p.state,p.a,p.b,p.key.k0,p.key.k1,p.key.k2,p.key.k3,p.half,p.a2,p.b2⟩
def Cp.peer (c:Cp):gG:=aks c.x c.q
def Cp.su (c:Cp) (b:Bool):Cp:={c with x:={c.x with on:=b}}
def Cp.setLast (c:Cp) (n:Int):Cp:={c with x:={c.x with last:=n}}
def Cp.Uz (c:Cp) (n:BitVec 32):Cp:={c with nx:=n}
def Cp.ou (c:Cp) (p:gG):Cp:={c with x:={c.x with side:=p.side,fG:=p.fG},q:=ar7 p}
def Cp.nV (c:Cp) (l a b:Int) (f:Bool):Cp:={c with x:={c.x with sl:=l,sa:=a,sb:=b,free:=f}}
def Cp.kP (c:Cp) (a:Ma):Cp:={c with x:={c.x with ma:=a}}
def Cp.setAt (c:Cp) (n:Int):Cp:={c with x:={c.x with at_:=n}}
def Cp.wU (c:Cp) (b:Bool):Cp:={c with x:={c.x with held:=b}}
def Cp.lT (c:Cp) (l:List Int):Cp:={c with x:={c.x with stops:=l}}
def Cp.rQ (c:Cp) (x:Tr):Cp:={c with x:=x}
def Cp.say (c:Cp) (o:List (List UInt8)):Cp:={c with out:=o}
structure Cs where
  x:Tr
  m:kZ
  Ao:Option Addr
  co:Nat
  out:List (List UInt8)
def Cs.plain (s:Cs):Cp:=⟨s.x,s.m.q,s.m.nx,s.out⟩
def Cs.cells (s:Cs) (tm:jl) (now:Int):Array Value:=cbC tm now s.x s.m s.Ao s.out.length s.co
def zO (g:Nat) (s:Cs) (k:Nat):Prop:=k=g\/s.m.A3.map (·.block)=some k\/s.Ao.map (·.block)=some k
def rU (n:Nat) (A A':Option Addr):Prop:= ∀k,A'.map (·.block)=some k->A.map (·.block)=some k\/n<=k
theorem rU.refl(n:Nat)(A:Option Addr):rU n A A:=λ_ h=> .inl h
theorem rU.trans{n d:Nat}{A B C:Option Addr}(h:rU n A B)(k:rU d B C)(hn:n<=d):rU n A C:=λb j=>by
 rcases k b j with e |e;·exact h b e
 omega
structure iw (g:Nat) (s s':Cs) (W W':World):Prop where
  gr:jV (zO g s) W W'
  a3:rU W s.m.A3 s'.m.A3
  ao:rU W s.Ao s'.Ao
theorem iw.of_below{g:Nat}{s:Cs}{W W':World}(h:W W'):iw g s s W W':=⟨jV.of_below h _,rU.refl _ _,rU.refl _ _⟩
theorem iw.trans{g:Nat}{J K M:Cs}{d W2 j:World}(h:iw g J K d W2)(k:iw g K M W2 j):iw g J M d j:=⟨⟨k.gr.os.trans h.gr.os,k.gr.tape.trans h.gr.tape,k.gr.output.trans h.gr.output,aG h.gr.size k.gr.size,λb H hn=>by
 refine(k.gr.block b (aU H h.gr.size) ?_).trans (h.gr.block b H hn);rintro (e |e |e);·exact hn (.inl e)
 ·rcases h.a3 b e with e |e;·exact hn (.inr (.inl e))
  ·omega
 ·rcases h.ao b e with e |e;·exact hn (.inr (.inr e))
  ·omega⟩,h.a3.trans k.a3 h.gr.size,h.ao.trans k.ao h.gr.size⟩
theorem iw.put{g:Nat}{s s':Cs}{W W':World}(H:W'.os=W.os)(K:W'.tape=W.tape)(M:W'.output=W.output)(J:W'.heap.size=W.heap.size)(j: ∀k,k≠g->W'.heap[k]? =W.heap[k]?)(d:s'.m.A3=s.m.A3)(hA:s'.Ao=s.Ao):iw g s s' W W':=⟨⟨H,K,M,bZ J.symm,λk _ hn=>j k (λe=>hn (.inl e))⟩,by rw[d];exact rU.refl _ _,by rw[hA];exact rU.refl _ _⟩
def D9 (W:World) (Bq g:Nat) (s:Cs) (x:Option Addr × Nat × Nat) (b:List UInt8):Prop:=fV Bq b (.slice x.1 x.2.1 x.2.2) W/\(b≠ []-> ∀a,x.1=some a-> ¬zO g s a.block)
theorem fV.ji{D:Nat->Prop}{w w':World}{base:Nat}{bs:List UInt8}{v:Value}(h:fV base bs v w)(d:jV D w w')(hn: ∀A n c,v=.slice A n c->bs≠ []-> ∀a,A=some a-> ¬D a.block):fV base bs v w':=by obtain⟨A,c,rfl,hB,O⟩:=h;have J:=hn A _ c rfl;refine⟨A,c,rfl,hB.keep' d.size (λj a e U=>d.block _ U (J j a e)),λj=>?_⟩;obtain⟨g,rfl,K,H,M⟩:=O j;have N:=d.block g H (J (by grind) _ rfl);exact⟨g,rfl,K,aU H d.size,λi hi=>(World.frozen?_of_block (a:=⟨g,i,none⟩) N).trans (M i hi)⟩
theorem fV.addr{base:Nat}{bs:List UInt8}{A:Option Addr}{n c:Nat}{w:World}(h:fV base bs (.slice A n c) w)(d:bs≠ []): ∃g,A=some ⟨g,0,none⟩/\base<=g/\g<w.heap.size:=by obtain⟨H,J,e,_,j⟩:=h;injection e with e1 e2 e3;subst e1;obtain⟨g,K,M,N,_⟩:=j (List.length_pos_iff.2 d);grind
theorem D9.turn{W W':World}{Bq g:Nat}{s s':Cs}{x:Option Addr × Nat × Nat}{b:List UInt8}(h:D9 W Bq g s x b)(H:iw g s s' W W'):D9 W' Bq g s' x b:=by
 refine⟨h.1.ji H.gr (λA n c e d a j=>by injection e with e1 _ _;subst e1;exact h.2 d a j),λd a j=>?_⟩;obtain⟨k,e1,_,K⟩:=h.1.addr d;have J:a.block<W.heap.size:=by grind
 have hn:=h.2 d a j;rintro (e |e |e);·exact hn (.inl e)
 ·rcases H.a3 _ e with e |e;·exact hn (.inr (.inl e))
  ·omega
 ·rcases H.ao _ e with e |e;·exact hn (.inr (.inr e))
  ·omega
def Ox:arb (Option Addr × Nat × Nat):=⟨1,fun b=> [.slice b.1 b.2.1 b.2.2],fun _=>rfl,fun _ u hu=>by simp at hu;subst hu;rfl,by decide⟩
theorem amS:qo aj Ox 50 45 24:=arD (.slice none 0 0) underlying50 (by kernel_rfl) rfl
structure UA (W:World) (Bq g:Nat) (s:Cs):Prop where
  row: ∃xs:List (Option Addr × Nat × Nat),aq1 Ox 45 W Bq s.Ao s.co xs/\xs.length=s.out.length/\ ∀(i:Nat) x b,xs[i]? =some x->s.out[i]? =some b->D9 W Bq g s x b
structure iJ (w0:World) (Bq g:Nat) (tm:jl) (now:Int) (s:Cs) (W:World):Prop where
  own:Own w0 W [(g,87,s.cells tm now)]
  tr:nH W Bq s.x s.m
  out:UA W Bq g s
  lo:w0.heap.size<=Bq
  hi:Bq<=W.heap.size
section
variable {w0 W W':World} {Bq g:Nat} {tm:jl} {now:Int} {s s':Cs}
theorem iJ.blk(h:iJ w0 Bq g tm now s W):fK W g 87 (s.cells tm now):=h.own.b0
theorem iJ.agM(h:iJ w0 Bq g tm now s W):w0.heap.size<=g:=(h.own.blk (g,87,s.cells tm now) (by simp)).1
theorem iJ.below(h:iJ w0 Bq g tm now s W):w0 W:=h.own.below
theorem iJ.amT(h:iJ w0 Bq g tm now s W): ∀k,zO g s k->w0.heap.size<=k:=by
 rintro k (e |e |e);·rw[e];exact h.agM
 ·exact aG h.lo (h.tr.stops.gJ k e).1
 ·obtain⟨xs,d,_⟩:=h.out.row;exact aG h.lo (d.gJ k e).1
theorem iJ.asy(h:iJ w0 Bq g tm now s W): ∀k,s.m.v.A1.map (·.block)=some k-> ¬zO g s k:=by
 intro k d;rintro (e |e |e);·exact ard h.tr.path h.blk (by decide) (by grind)
 ·exact oQ h.tr.path h.tr.stops (by decide) k d e
 ·obtain⟨xs,j,_⟩:=h.out.row;exact oQ h.tr.path j (by decide) k d e
theorem iJ.asw(h:iJ w0 Bq g tm now s W): ∀k,s.m.v.A2.map (·.block)=some k-> ¬zO g s k:=by
 intro k d;rintro (e |e |e);·exact ard h.tr.fP h.blk (by decide) (by grind)
 ·exact oQ h.tr.fP h.tr.stops (by decide) k d e
 ·obtain⟨xs,j,_⟩:=h.out.row;exact oQ h.tr.fP j (by decide) k d e
theorem iJ.grow(h:iJ w0 Bq g tm now s W)(d:W W'):iJ w0 Bq g tm now s W':=⟨h.own.grow d,h.tr.below d,⟨by obtain⟨xs,J,H,hi⟩:=h.out.row;exact⟨xs,J.below d,H,λi x b K j=>(hi i x b K j).turn (iw.of_below d)⟩⟩,h.lo,aG h.hi d.size⟩
theorem iJ.put(h:iJ w0 Bq g tm now s W)(V:Own w0 W' [(g,87,s'.cells tm now)])(H:iw g s s' W W')(M:W'.heap.size=W.heap.size)(Z: ∀k,k≠g->W'.heap[k]? =W.heap[k]?)(J:nH W Bq s'.x s'.m)(hA:s'.Ao=s.Ao)(hc:s'.co=s.co)(ho:s'.out=s.out)(N:s'.m.v.A1.map (·.block)≠some g)(O:s'.m.v.A2.map (·.block)≠some g)(U:s'.m.A3.map (·.block)≠some g):iJ w0 Bq g tm now s' W':=by have j:jV (λk=>k=g) W W':=⟨H.gr.os,H.gr.tape,H.gr.output,bZ M.symm,λk _ hn=>Z k hn⟩;refine⟨V,{J with path:=J.path.ji j (λk e d=>N (by rw[e,d])),fP:=J.fP.ji j (λk e d=>O (by rw[e,d])),stops:=J.stops.ji j (λk e d=>U (by rw[e,d]))},⟨?_⟩,h.lo,by rw[M];exact h.hi⟩;obtain⟨xs,K,hl,hi⟩:=h.out.row;rw[hA,hc,ho];exact⟨xs,K.ji j (λk e d=>ard K h.blk (by decide) (by rw[e,d])),hl,λi x b hx Y=>(hi i x b hx Y).turn H⟩
theorem iJ.turn{L:List Bk}(h:iJ w0 Bq g tm now s W)(J:iJ w0 Bq g tm now s' W')(U:iw g s s' W W')(M:Own w0 W ((g,87,s.cells tm now)::L))(K: ∀y∈L,y.1<Bq\/(y.2.1≠3/\y.2.1≠45)):Own w0 W' ((g,87,s'.cells tm now)::L):=by
 have O:=M.nodup;rw[List.map_cons,List.nodup_cons]at O;refine⟨J.below,λy j=>?_,by grind⟩;rcases bJ.1 j with rfl |j;·exact J.own.blk _ (by simp)
 ·have H:=M.blk y (List.mem_cons_of_mem _ j);refine⟨H.1,H.2.ji U.gr ?_⟩;rintro (e |e |e);·grind
  ·rcases K y j with d |d;(·have:=(h.tr.stops.gJ _ e).1;omega);·exact ard h.tr.stops H.2 d.1.symm e
  ·obtain⟨xs,N,_⟩:=h.out.row;rcases K y j with d |d;(·have:=(N.gJ _ e).1;omega);·exact ard N H.2 d.2.symm e
end
section
variable {P:Program} {ops:Array Oper} {rest:List Oper} {o:Oper} {a:Act} {w W:World} {Q:Exit->Act->World->Prop}
theorem wB(W:World)(g i:Nat)(t ty:TypeId)(cs vs:Array Value)(d:TypeDesc)(N:fK W g t cs)(Y:(cs.toList.drop i).take vs.size=vs.toList)(V:P.underlying ty=some d)(hd:(match d with | .struct _ | .array _ _=>true |_=>false)=true)(hi:(P.info? ty).map (·.size)=some vs.size):(loadVar ty ⟨g,i,none⟩).run P W=.ok vs W:=by
 have H:(loadCells ⟨g,i,none⟩ vs.toList.length).run P W=.ok vs.toList.toArray W:=run_loadCells_list (P:=P) W ⟨g,i,none⟩ vs.toList (λJ v j=>by
  have K:(⟨g,i,none⟩:Addr).add J=⟨g,i+J,none⟩:=by unfold Addr.add;split <;> simp_all
  rw[K,N.cell,<-Array.getElem?_toList];rw[<-Y,List.getElem?_take]at j;split at j;·grind
  ·cases j)
 cases O:P.info? ty with
 |none=>grind
 |some Z=>
  have U:Z.size=vs.size:=by grind
  have M:(isAgg ty).run P W=.ok true W:=by unfold isAgg;rw[Sem.run_bind,run_underlying V W];cases d <;> simp_all
  simp only[Array.length_toList,Array.toArray_toList]at H;simp[loadVar,Sem.run_bind,M,sizeOf,typeInfo,O,U,H]
theorem wC{L:List Bk}{g:Nat}{t:TypeId}{cs:Array Value}{j:Act->World->Prop}(H:Own w W ((g,t,cs)::L))(i:Nat)(vs:Array Value)(N:(cs.toList.drop i).take vs.size=vs.toList)(ty:TypeId)(x:Operand)(K:o.op=.load ty x)(O:a.eval x=.pointer (some ⟨g,i,none⟩))(d:TypeDesc)(M:P.underlying ty=some d)(J:(match d with | .struct _ | .array _ _=>true |_=>false)=true)(hi:(P.info? ty).map (·.size)=some vs.size)(h:j (a.put o.dst vs) W):o.wp P a W j Q:=by unfold Oper.wp execOp;simp only[K,O,Instr.loadAt,Instr.sureAddr,Sem.run_bind,Sem.run_pure,dO,wB W g i t ty cs vs d H.b0 N M J hi];exact h
theorem qO{L:List Bk}{g:Nat}{t:TypeId}{cs:Array Value}(H:Own w W ((g,t,cs)::L))(i:Nat)(vs:Array Value)(N:(cs.toList.drop i).take vs.size=vs.toList)(O:aF o (yielded ops a.tmps)=true)(ty:TypeId)(x:Operand)(K:o.op=.load ty x)(U:a.eval x=.pointer (some ⟨g,i,none⟩))(d:TypeDesc)(M:P.underlying ty=some d)(J:(match d with | .struct _ | .array _ _=>true |_=>false)=true)(hi:(P.info? ty).map (·.size)=some vs.size)(h:wpList P ops Q rest (a.put o.dst vs) W):wpList P ops Q (o::rest) a W:=arP O λV j=>by unfold Oper.wp execOp;simp only[K,U,Instr.loadAt,Instr.sureAddr,Sem.run_bind,Sem.run_pure,dO,wB W g i t ty cs vs d H.b0 N M J hi];exact j _ _ h
end
theorem iJ.akt{w0 W:World}{Bq g:Nat}{tm:jl}{now:Int}{s:Cs}(h:iJ w0 Bq g tm now s W): ∀k,zO g s k->k<W.heap.size:=by
 rintro k (e |e |e);·rw[e];exact h.blk.lt
 ·exact(h.tr.stops.gJ k e).2
 ·obtain⟨xs,d,_⟩:=h.out.row;exact(d.gJ k e).2
theorem iw.off{g:Nat}{s s':Cs}{W W':World}(d:iw g s s' W W'){k:Nat}(j:k<W.heap.size)(hn: ¬zO g s k): ¬zO g s' k:=by
 rintro (e |e |e);·exact hn (.inl e)
 ·rcases d.a3 _ e with e |e;·exact hn (.inr (.inl e))
  ·omega
 ·rcases d.ao _ e with e |e;·exact hn (.inr (.inr e))
  ·omega
structure arz (W:World) (g:Nat) (s:Cs) (b:Nat) (t:TypeId) (cs:Array Value):Prop where
  blk:fK W b t cs
  off: ¬zO g s b
theorem arz.turn{W W':World}{g:Nat}{s s':Cs}{b:Nat}{t:TypeId}{cs:Array Value}(h:arz W g s b t cs)(d:iw g s s' W W'):arz W' g s' b t cs:=⟨h.blk.ji d.gr h.off,d.off h.blk.lt h.off⟩
theorem arz.below{W W':World}{g:Nat}{s:Cs}{b:Nat}{t:TypeId}{cs:Array Value}(h:arz W g s b t cs)(d:W W'):arz W' g s b t cs:=⟨h.blk.below d h.blk.lt,h.off⟩
theorem iJ.beside{w0 w W:World}{Bq g:Nat}{tm:jl}{now:Int}{s:Cs}(h:iJ w0 Bq g tm now s w){b:Nat}{t:TypeId}{cs:Array Value}(d:fK W b t cs)(H:w.heap.size<=b):arz W g s b t cs:=⟨d,λj=>by have:=h.akt b j;omega⟩
def pY (w0:World) (Bq g:Nat) (tm:jl) (now:Int) (s:Cs) (W:World) (F:Cp) (W':World):Prop:= ∃s',iJ w0 Bq g tm now s' W'/\iw g s s' W W'/\s'.plain=F
theorem pY.same{w0 W W':World}{Bq g:Nat}{tm:jl}{now:Int}{s:Cs}(h:iJ w0 Bq g tm now s W)(d:W W'):pY w0 Bq g tm now s W s.plain W':=⟨s,h.grow d,iw.of_below d,rfl⟩
theorem pY.trans{w0 W d W2:World}{Bq g:Nat}{tm:jl}{now:Int}{s j:Cs}{F:Cp}(M:iw g s j W d)(h:pY w0 Bq g tm now j d F W2):pY w0 Bq g tm now s W F W2:=by obtain⟨s',H,J,K⟩:=h;exact⟨s',H,M.trans J,K⟩
theorem iJ.Ea{w0 W W':World}{Bq g:Nat}{tm:jl}{now:Int}{s s':Cs}(h:iJ w0 Bq g tm now s W)(j:Own w0 W' [(g,87,s'.cells tm now)])(M:W'.heap.size=W.heap.size)(K: ∀k,k≠g->W'.heap[k]? =W.heap[k]?)(e:s'.x.ma=s.x.ma/\s'.x.stops=s.x.stops/\s'.m.v=s.m.v/\s'.m.A3=s.m.A3/\s'.m.n3=s.m.n3/\s'.m.c3=s.m.c3/\s'.Ao=s.Ao/\s'.co=s.co/\s'.out=s.out):iJ w0 Bq g tm now s' W'/\iw g s s' W W':=by
 obtain⟨e1,e2,e3,e4,H,O,J,U,V⟩:=e;have N:iw g s s' W W':=iw.put (j.below.os.trans h.below.os.symm) (j.below.tape.trans h.below.tape.symm) (j.below.output.trans h.below.output.symm) M K e4 J;have d:=h.tr;refine⟨h.put j N M K ⟨by rw[e1,e3];exact d.path,by rw[e1,e3];exact d.fP,by rw[e2,e4,O];exact d.stops,by rw[e1,e3];exact d.e1,by rw[e1,e3];exact d.e2,by rw[e2,H];exact d.e3,by rw[e3];exact d.l1,by rw[e3];exact d.l2,by rw[H];exact d.l3⟩ J U V ?_ ?_ ?_,N⟩;·rw[e3];exact ard d.path h.blk (by decide)
 ·rw[e3];exact ard d.fP h.blk (by decide)
 ·rw[e4];exact ard d.stops h.blk (by decide)
def Cs.su (s:Cs) (b:Bool):Cs:={s with x:={s.x with on:=b}}
def Cs.setLast (s:Cs) (n:Int):Cs:={s with x:={s.x with last:=n}}
def Cs.Uz (s:Cs) (n:BitVec 32):Cs:={s with m:={s.m with nx:=n}}
def Cs.ou (s:Cs) (p:gG):Cs:={s with x:={s.x with side:=p.side,fG:=p.fG},m:={s.m with q:=ar7 p}}
def Cs.nV (s:Cs) (l a b:Int) (f:Bool):Cs:={s with x:={s.x with sl:=l,sa:=a,sb:=b,free:=f}}
def Cs.kP (s:Cs) (a:Ma) (v:DF):Cs:={s with x:={s.x with ma:=a},m:={s.m with v:=v}}
def Cs.setAt (s:Cs) (n:Int):Cs:={s with x:={s.x with at_:=n}}
def Cs.wU (s:Cs) (b:Bool):Cs:={s with x:={s.x with held:=b}}
def Cs.lT (s:Cs) (l:List Int) (A:Option Addr) (n c:Nat):Cs:={s with x:={s.x with stops:=l},m:={s.m with A3:=A,n3:=n,c3:=c}}
def Cs.rQ (s:Cs) (x:Tr) (m:kZ):Cs:={s with x:=x,m:=m}
def Cs.Eb (s:Cs) (o:List (List UInt8)) (A:Option Addr) (c:Nat):Cs:={s with out:=o,Ao:=A,co:=c}
section
variable (tm:jl) (now:Int) (s:Cs)
theorem tK:(s.cells tm now).size=54:=rfl
theorem UC(b:Bool):(s.cells tm now).setIfInBounds 37 (.bool b)=(s.su b).cells tm now:=rfl
theorem agN(n:Int):(s.cells tm now).setIfInBounds 36 (.int .i64 n)=(s.setLast n).cells tm now:=rfl
theorem amU(n:BitVec 32):(s.cells tm now).setIfInBounds 31 (q32 n)=(s.Uz n).cells tm now:=rfl
theorem Jg(p:gG):arh (s.cells tm now) 15 (gB p).toList=(s.ou p).cells tm now:=by kernel_rfl
theorem ad7(l a b:Int)(f:Bool):arh (s.cells tm now) 32 (#[.int .i64 l,.int .i64 a,.int .i64 b,.bool f]:Array Value).toList=(s.nV l a b f).cells tm now:=by rfl
theorem ad8(a:Ma)(v:DF):arh (s.cells tm now) 44 (nO a v).toList=(s.kP a v).cells tm now:=by rfl
theorem amV(n:Int):(s.cells tm now).setIfInBounds 49 (.int .i64 n)=(s.setAt n).cells tm now:=rfl
theorem agO(b:Bool):(s.cells tm now).setIfInBounds 50 (.bool b)=(s.wU b).cells tm now:=rfl
theorem ad9(x:Tr)(m:kZ):arh (s.cells tm now) 4 (jf x m).toList=(s.rQ x m).cells tm now:=by kernel_rfl
theorem aku(o:List (List UInt8))(A:Option Addr)(c:Nat):(s.cells tm now).setIfInBounds 53 (.slice A o.length c)=(s.Eb o A c).cells tm now:=rfl
theorem Cb(p:gG):15+(gB p).size<=(s.cells tm now).size:=by repeat' constructor
theorem XD(l a b:Int)(f:Bool):32+(#[.int .i64 l,.int .i64 a,.int .i64 b,.bool f]:Array Value).size<=(s.cells tm now).size:=by constructor<;>simp_all
theorem QC(a:Ma)(v:DF):44+(nO a v).size<=(s.cells tm now).size:=by repeat' constructor
theorem QD(x:Tr)(m:kZ):4+(jf x m).size<=(s.cells tm now).size:=by repeat' constructor
theorem oU:((s.cells tm now).toList.drop 4).take (jf s.x s.m).size=(jf s.x s.m).toList:=by rfl
theorem pG:((s.cells tm now).toList.drop 15).take (gB s.plain.peer).size=(gB s.plain.peer).toList:=by rfl
theorem zl:((s.cells tm now).toList.drop 44).take (nO s.x.ma s.m.v).size=(nO s.x.ma s.m.v).toList:=by rfl
theorem sW:((s.cells tm now).toList.drop 0).take tm.cells.size=tm.cells.toList:=by rfl
theorem Ih:((s.cells tm now).toList.drop 38).take 3= [.int .i64 s.x.pos.edge,.int .i64 s.x.pos.at_,.bool s.x.pos.rev]:=by rfl
end
end
def nM (c:Cp) (q:P7):Cp:=if may q=true then c.say (c.out++ [enc q]) else c
theorem XE{w:World}(h:fK w g 45 #[.slice x.1 x.2.1 x.2.2]):fE Ox w g [x]:=λ_=>⟨g,0,rfl,h.lt,λj u d=>by rw[aJ,h.cell,<-Array.getElem?_toList];exact d⟩
theorem iJ.said{j:World}{s:Cs}(h:iJ w0 Bq g tm now s W){xs:List (Option Addr × Nat × Nat)}(hl:xs.length=s.out.length)(U:aq1 Ox 45 W Bq s.Ao s.co xs)(hi: ∀(i:Nat) x b,xs[i]? =some x->s.out[i]? =some b->D9 W Bq g s x b){b:List UInt8}(hx:D9 W Bq g s x b){A2:Option Addr}{c2:Nat}(ho:aq1 Ox 45 j Bq A2 c2 (xs++ [x]))(M:W.grownBy j (s.Ao.map (·.block)))(hn:A2.map (·.block)=s.Ao.map (·.block)\/A2.map (·.block)=some W.heap.size)(n:Nat)(ag:n=s.out.length+1):iJ w0 Bq g tm now (s.Eb (s.out++ [b]) A2 c2) (j.setCell ⟨g,53,none⟩ (.slice A2 n c2))/\iw g s (s.Eb (s.out++ [b]) A2 c2) W (j.setCell ⟨g,53,none⟩ (.slice A2 n c2)):=by
 have ai:s.Ao.map (·.block)≠some g:=ard U h.blk (by decide);have aa:fK j g 87 (s.cells tm now):=h.blk.grown M (λe=>ai e.symm);have ad: ∀k,k≠g->(j.setCell ⟨g,53,none⟩ (.slice A2 n c2)).heap[k]? =j.heap[k]? :=λk d=>aN j ⟨g,53,none⟩ _ k d;have N:jV (λk=>k=g\/s.Ao.map (·.block)=some k) W (j.setCell ⟨g,53,none⟩ (.slice A2 n c2)):=⟨M.os,M.tape,M.output,by simpa[dD] using M.size,λk d O=>(ad k (λe=>O (.inl e))).trans (M.block k d (λe=>O (.inr e.symm)))⟩;have Z:jV (zO g s) W (j.setCell ⟨g,53,none⟩ (.slice A2 n c2)):=N.mono (λk d=>by
  rcases d with e |e;·exact .inl e
  ·exact .inr (.inr e))
 have V:iw g s (s.Eb (s.out++ [b]) A2 c2) W (j.setCell ⟨g,53,none⟩ (.slice A2 n c2)):=⟨Z,rU.refl _ _,λk e=>by have e':A2.map (·.block)=some k:=e;grind⟩;have ae:w0 (j.setCell ⟨g,53,none⟩ (.slice A2 n c2)):=h.below.trans (Z.below h.below.size h.amT);have hc:fK (j.setCell ⟨g,53,none⟩ (.slice A2 n c2)) g 87 ((s.Eb (s.out++ [b]) A2 c2).cells tm now):=by have:=aa.iV 53 (.slice A2 n c2);rw[ag,show s.out.length+1=(s.out++ [b]).length by simp,aku]at this;grind
 have H:=h.tr;refine⟨⟨⟨ae,λy J=>?_,by simp⟩,{H with path:=H.path.ji N ?_,fP:=H.fP.ji N ?_,stops:=H.stops.ji N ?_},⟨xs++ [x],?_,by simp[Cs.Eb,hl],?_⟩,h.lo,aG h.hi N.size⟩,V⟩;·simp only[dN]at J;subst J;exact⟨h.agM,hc⟩
 ·rintro k d (e |e);·exact ard H.path h.blk (by decide) (by grind)
  ·exact oQ H.path U (by decide) k d e
 ·rintro k d (e |e);·exact ard H.fP h.blk (by decide) (by grind)
  ·exact oQ H.fP U (by decide) k d e
 ·rintro k d (e |e);·exact ard H.stops h.blk (by decide) (by grind)
  ·exact oQ H.stops U (by decide) k d e
 ·refine aq1.ji (D:=λk=>k=g) ho ⟨rfl,rfl,rfl,by simp,λk _ O=>ad k O⟩ (λk d e=>ard ho aa (by decide) (by subst e;exact d))
 ·intro i y c J ac;by_cases af:i<xs.length;·rw[dP af]at J;have K:(s.out++ [b])[i]? =some c:=ac;rw[dP (by omega)]at K;exact(hi i y c J K).turn V
  ·rw[List.getElem?_append_right (by omega)]at J;have K:(s.out++ [b])[i]? =some c:=ac;rw[List.getElem?_append_right (by omega)]at K;(have Y:i-xs.length=0:=by grind);rw[Y]at J;rw[<-hl,Y]at K;simp at J K;subst J;subst K;exact hx.turn V
theorem QE{s:Cs}(h:iJ w0 Bq g tm now s W)(q:P7)(A:Option Addr)(n c:Nat)(hn:n=q.body.length)(hB:aq2 W A c q.body)(an:q.body.length<=2000)(aE:s.out.length<=100):Calls aj 58 #[.pointer g,jT q A n c] W λe W'=>e=.returned (.tuple #[])/\pY w0 Bq g tm now s W (nM s.plain q) W':=by
 have j:Own W _ [_]:=Own.jD W 136 (jT q A n c);have H:=adS q A n c _ hn (hB.below j.below) an;have ax:=j.b0.cell;unfold jT at*;obtain⟨W1,ai⟩:=fD (W.alloc (.cells #[q.kind,q.dir,q.fG,q32 q.a,q32 q.b,.slice A n c,q64 q.je] 136));obtain⟨no,V⟩:=fD s.out.length;have HN:=ah V;clear hn;cases hm:may q with
 |false=>
  rw[hm]at H;simp only[bU,if_false]at H;have hF:nM s.plain q=s.plain:=by rw[nM,hm];rfl
  rw[hF];go_enter func58,ntmps58;go_wp2_with((with_reducible refine H.mono ?_);rintro e d⟨v,rfl,_,O⟩);go_end0;exact⟨rfl,pY.same h (j.grow O).below⟩
 |true=>
  rw[hm]at H;simp only[if_true]at H;have hF:nM s.plain q=s.plain.say (s.out++ [enc q]):=by rw[nM,hm];rfl
  rw[hF];have aw:(s.cells tm now)[53]? =some (.slice s.Ao no s.co):=by rw[V];rfl
  clear hm ai V;go_enter func58,ntmps58;go_upto_region 3 with((with_reducible refine H.mono ?_);rintro e d⟨v,rfl,J,O⟩)
  obtain⟨Av,cv,rfl,ar⟩:=id J;have N:=j.grow O;have ae:=h.grow N.below;obtain⟨bl,aa⟩:=fD ((enc q).length);rw[<-aa]at J ⊢;have U:d (d.alloc (.cells #[.slice Av bl cv] 45)):=gY.alloc ig _;have M:=ae.grow U;obtain⟨xs,Y,hl,hi⟩:=M.out.row;have al:xs.length=no:=hl.trans HN.out.symm;have am:no+1<=65536:=by omega
  have ak:D9 (d.alloc (.cells #[.slice Av bl cv] 45)) Bq g s (Av,bl,cv) (enc q):=by refine⟨?_,λh0 a K hd=>?_⟩;(·exact(J.mono (aG h.hi j.below.size)).grow U);·obtain⟨k,e1,az,aD⟩:=J.addr h0;rw[e1]at K;injection K with K;have:=h.akt _ hd;have h2:=j.below.size;rw[<-K]at this;simp only at this;omega
  have ag:=M.hi;have aq:fE Ox (d.alloc (.cells #[.slice Av bl cv] 45)) d [(Av,bl,cv)]:=XE (fK.new _ _ _);have ad:=M.blk;have Tc:=ae.blk.cell;have af:s.Ao.map (·.block)≠some g:=ard Y ad (by decide);clear J ar aa;go_wp2_with(first|(at_builtin;(with_reducible refine gW amS rfl _ _ rfl Bq s.Ao s.co xs no rfl al Y _ 1 [(Av,bl,cv)] 1 rfl rfl aq am (by decide) ag ?_);intro A2 c2 w5 uq ac ap;have Z:=ad.grown ac (λe=>af e.symm);have au:=Z.cell;have av:=Z.frozen));obtain⟨h1,h2⟩:=M.said hl Y hi ak uq ac ap (no+1) (by omega);refine bodyPost_end (results_none rfl _ _ _) rfl ⟨rfl,s.Eb (s.out++ [enc q]) A2 c2,h1,(iw.of_below (N.below.trans (U.mono N.below.size))).trans h2,rfl⟩
def sZ {α:Type} (q:α->Bool) (l:List α):Int:=match l.findIdx? q with |some i=>i |none=> -1
theorem agP{α:Type}{q:α->Bool}{l:List α}{k:Nat}{x:α}(j:l[k]? =some x)(M:q x=true)(hn: ∀y∈l.take k,q y=false):sZ q l=k:=by
 unfold sZ;have h:l.findIdx? q=some k:=by rw[List.findIdx?_eq_some_iff_getElem];obtain⟨d,J⟩:=aX.1 j;refine⟨d,by grind,λH K=>?_⟩;have:=hn l[H] (by rw[List.mem_take_iff_getElem];grind);simpa using this
 rw[h]
theorem aaC{α:Type}{q:α->Bool}{l:List α}(hn: ∀y∈l,q y=false):sZ q l= -1:=by unfold sZ;rw[List.findIdx?_eq_none_iff.2 hn]
theorem aea{α:Type}(q:α->Bool)(l:List α):decide (0<=sZ q l)=l.any q:=by unfold sZ;cases h:l.findIdx? q with|none=>grind|some i=>obtain⟨d,j,_⟩:=List.findIdx?_eq_some_iff_getElem.1 h;have H:l.any q=true:=List.any_eq_true.2 ⟨_,List.getElem_mem d,j⟩;rw[H];simp
theorem aeb{α:Type}(q:α->Bool)(l:List α):sZ id (l.map q)=sZ q l:=by unfold sZ;rw[List.findIdx?_map];rfl
theorem aec(F:FuncId)(ac: ∀(args:Array Value) (W:World),(callFunc F args).run aj W=.ok (.enter F args) W)(j:List Bool)(A:Option Addr)(n c:Nat)(xs:List WV)(w:World)(hF: ∀(i:Nat) x b,xs[i]? =some x->j[i]? =some b-> ∀W,w W->Calls aj F #[.agg #[x.id,.slice x.A x.n x.c]] W λe w'=>e=.returned b/\W w')(hR:fE qJ w A xs)(hn:xs.length=n)(aa:j.length=n)(hb:n<=1000000):Calls aj 255 #[.slice A n c,.func (.func F) #[] #[]] w λe w'=>e=.returned (sZ id j:Int)/\w w':=by
 have HN:=ah hn;have HF:=ah hF;have O:=ah aa;go_enter func255,ntmps255;go_wp2_with fail;go_loopw [8] (λi wr=> ∃k:Nat,i=.int .i64 k/\k<=n/\w wr/\Hid (∀y∈j.take k,id y=false)) (λi _=>n-(intOf i).toNat);case atStart=>exact⟨0,rfl,aV _,aH _ _,ah (by simp)⟩
 case round=>
  obtain⟨k,rfl,hk,d,K⟩:=hrel;by_cases Z:k<n;·obtain⟨x,hx⟩:=aq5 HN.out Z;obtain⟨g,off,hA,ad,hc⟩:=(hR.below d).get hx;subst hA;have a0:=hc 0 _ rfl;have a1:=hc 1 _ rfl;simp only[qJ,bI]at a0 a1;obtain⟨b,V⟩:=aq5 O.out Z;have Y:=HF.out k x b hx V wr d;have N:=ah V;cases b with|false=>have WU:Hid (∀y∈j.take (k+1),id y=false):=ah (by rw[take_snoc' N.out];intro y H;rcases dK.1 H with H |H;(·exact K.out y H);·simp at H;assumption);go_wp2_with((refine Y.mono ?_);rintro e w3⟨rfl,J⟩);go_roundw;(case rel=>exact⟨k+1,by go_num,by omega,d.trans (J.mono d.size),WU⟩);case measure=>simp[intOf];omega|true=>have M:Hid (sZ id j=(k:Int)):=ah (agP N.out rfl K.out);go_wp2_with((refine Y.mono ?_);rintro e w3⟨rfl,J⟩);go_ret;exact⟨by rw[M.out];rfl,d.trans (J.mono d.size)⟩
  ·(obtain rfl:k=n:=by omega);have M:Hid (sZ id j= -1):=ah (aaC (by have U:=K.out;rw[aY (by rw[O.out];simp)]at U;exact U));go_wp2_with fail;go_ret;exact⟨by rw[M.out];rfl,d⟩
theorem agQ(F:FuncId)(N: ∀(args:Array Value) (W:World),(callFunc F args).run aj W=.ok (.enter F args) W)(d:List Bool)(A:Option Addr)(n c:Nat)(xs:List WV)(w:World)(hF: ∀(i:Nat) x b,xs[i]? =some x->d[i]? =some b-> ∀W,w W->Calls aj F #[.agg #[x.id,.slice x.A x.n x.c]] W λe w'=>e=.returned b/\W w')(J:fE qJ w A xs)(hn:xs.length=n)(O:d.length=n)(K:n<=1000000):Calls aj 253 #[.slice A n c,.func (.func F) #[] #[]] w λe w'=>e=.returned (.bool (d.any id))/\w w':=by have j:=aec F N d A n c xs w hF J hn O K;have H:=aea id d;obtain⟨i,hi⟩:=fD (sZ id d);rw[<-hi]at j H;obtain⟨b,M⟩:=fD (d.any id);rw[<-M]at H ⊢;go_enter func253,ntmps253;go_wp2_with((with_reducible refine j.mono ?_);rintro e V⟨rfl,U⟩);go_ret;simp_all
theorem UD: ∀args w,(callFunc 252 args).run aj w=.ok (.enter 252 args) w:=enters_of func252 (by rfl) (by rfl)
theorem UE: ∀args w,(callFunc 256 args).run aj w=.ok (.enter 256 args) w:=enters_of func256 (by rfl) (by rfl)
theorem agR(x:WV)(w:World):Calls aj 256 #[.agg #[x.id,.slice x.A x.n x.c]] w λe w'=>e=.returned (.bool (decide (x.id=5)))/\w w':=by have d:Own w _ [_]:=Own.jD w 198 #[x.id,.slice x.A x.n x.c];have hc:=d.b0.cell;obtain⟨i,A,n,c⟩:=x;go_enter func256,ntmps256;go_wp2_with fail;go_ret;exact⟨rfl,d.below⟩
def G9 (p:Pk):Bool:=match mO p with | .ok _=>false | .error _=>true
theorem agS(p:Pk)(x:WV)(w:World)(J:Tab w)(N:x.id=p.id)(M:fE aq7 w x.A p.v)(hn:p.v.length=x.n)(K:x.n<=60000)(hc:x.n<=x.c/\x.c<=maxLen):Calls aj 252 #[.agg #[x.id,.slice x.A x.n x.c]] w λe w'=>e=.returned (.bool (G9 p))/\w w':=by
 obtain⟨i,A,n,c⟩:=x;obtain rfl:i=p.id:=N;have j:Own w _ [_]:=Own.jD w 198 #[p.id,.slice A n c];have V:=j.b0.cell;have d:=PZ p A n c _ (J.below j.below) (M.below j.below) hn K hc;unfold vG at d;unfold G9;cases hi:mO p with
 |error er=>
  rw[hi]at d;simp only at d ⊢;have U:(er != 0)=true:=by rw[bne_iff_ne];exact Gw hi
  go_enter func252,ntmps252;go_wp2_with((with_reducible refine d.mono ?_);rintro e O⟨H,rfl⟩);go_ret;exact⟨rfl,(j.grow H).below⟩
 |ok l=>rw[hi]at d;simp only at d ⊢;go_enter func252,ntmps252;go_wp2_with((with_reducible refine d.mono ?_);rintro e O⟨H,A3,c3,rfl,_⟩);go_ret;exact⟨rfl,(j.grow H).below⟩
end Go.Proofs.YthnmgjngniciaaaGreatDoor
