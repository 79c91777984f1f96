/- Parts. -/
import Derived.Test.YthnmgjngniciaaaGreatDoorV05
import Derived.Test.YthnmgjngniciaaaGreatDoorV07
set_option linter.all false
set_option maxHeartbeats 16000000
set_option maxRecDepth 8000
open Bool renaming and_eq_true->bM,false_eq_true->bU
open List renaming getD_eq_getElem?_getD->bH,getElem?_append_left->dP,getElem?_cons_zero->eP,getElem?_eq_getElem->aI,length_eq_zero_iff->dh,map->bV,mem_cons->bJ,mem_singleton->dN,nil_append->aZ,setIfInBounds_toArray->ay,set_cons_succ->aB,set_cons_zero->aA,take_of_length_le->aY
open Nat renaming add_zero->bI,le_of_eq->bZ,le_refl->aW,le_trans->aG,lt_of_lt_of_eq->fA,lt_of_lt_of_le->aU,reduceAdd->aT,zero_add->aJ,zero_le->aV
open Option.some renaming injEq->aO
namespace Go.Proofs.YthnmgjngniciaaaGreatDoor
open Go renaming Addr->δ,Calls->Γ,Ending->ε,Oper->ο,Operand->κ,Program->χ,TypeId->τ,Value->Θ,World->ω,binOp->γ,bodyPost_ret->β,run_underlying->ν,setRow_other->ζ,undef->υ,wpList->Δ,wp_load_row->ι,wp_store_row->η,yielded->ψ
open Go.RowKit Go.Shelf Tryz
open Act renaming put->aP
open Below renaming heap_setCell->aN,refl->aH
open Go.Lib renaming hid->ah
open Region renaming binds->aC,wanted->aF
open Result renaming andThen_ok->dO
open Tryz renaming prog->aj,underlying136->bF,underlying27->dB,underlying34->bD,underlying42->dA,underlying44->bg
open Value renaming oneCell'->aK
open World renaming setCell->dD
variable{ops:Array ο}{e:ε}{er f id now:Int}{ps:List Pk}{n:Ma}{v:DF}{m:Ms}{B B0 Bq b c cv g i j s s1 s2:Nat}{A A2:Option δ}{x:Option δ × Nat × Nat}{p:Pk}{C:Prop}{t:Tp}{tm:jl}{W W' w w' w0:ω}
section
def cbC (tm:jl) (now:Int) (x:Tr) (m:kZ) (Ao:Option δ) (no co:Nat):Array Θ:= #[.slice tm.A1 tm.n1 tm.c1,.slice tm.A2 tm.n2 tm.c2,.slice tm.A3 tm.n3 tm.c3,.slice tm.A4 tm.n4 tm.c4,.int .i64 x.id,.int .i64 x.len,.int .i64 x.rl.ahead,.int .i64 x.rl.behind,.int .i64 x.rl.period,.int .i64 x.rl.most,.int .i64 x.rl.quiet,.int .i64 x.rl.oJ,.int .i64 x.rl.wI,.int .i64 x.rl.skew,.int .i64 x.rl.lend,.int .i64 x.side,.int .i64 x.fG,q32 m.q.k0,q32 m.q.k1,q32 m.q.k2,q32 m.q.k3,.int .i64 m.q.state,q32 m.q.a,q32 m.q.b,q32 m.q.j0,q32 m.q.j1,q32 m.q.j2,q32 m.q.j3,.bool m.q.half,q32 m.q.a2,q32 m.q.b2,q32 m.nx,.int .i64 x.sl,.int .i64 x.sa,.int .i64 x.sb,.bool x.free,.int .i64 x.last,.bool x.on,.int .i64 x.pos.edge,.int .i64 x.pos.at_,.bool x.pos.rev,.int .i64 x.ref,.int .i64 x.past,.bool x.rev,.int .i64 x.ma.ref,.bool x.ma.rev,.slice m.v.A1 m.v.n1 m.v.c1,.slice m.v.A2 m.v.n2 m.v.c2,.int .i64 x.ma.gap,.int .i64 x.at_,.bool x.held,.slice m.A3 m.n3 m.c3,.int .i64 now,.slice Ao no co]
section
variable (tm:jl) (now:Int) (x:Tr) (m:kZ) (Ao:Option δ) (no co:Nat)
def cb8:(cbC tm now x m Ao no co)[8]? =some (.int .i64 x.rl.period):=rfl
def aqC:(cbC tm now x m Ao no co)[12]? =some (.int .i64 x.rl.wI):=rfl
end
structure Cp where
  x:Tr
  q:Zx
  nx:BitVec 32
  out:List (List UInt8)
def aks (x:Tr) (q:Zx):gG:=⟨x.side,x.fG,⟨q.k0,q.k1,q.k2,q.k3⟩,q.state,q.a,q.b,⟨q.j0,q.j1,q.j2,q.j3⟩,q.half,q.a2,q.b2⟩
def ar7 (p:gG):Zx:=⟨p.base.k0,p.base.k1,p.base.k2,p.base.k3,p.state,p.a,p.b,p.key.k0,p.key.k1,p.key.k2,p.key.k3,p.half,p.a2,p.b2⟩
def Cp.peer (c:Cp):gG:=aks c.x c.q
def Cp.su (c:Cp) (b:Bool):Cp:={c with x:={c.x with on:=b}}
def Cp.setLast (c:Cp) (n:Int):Cp:={c with x:={c.x with last:=n}}
def Cp.Uz (c:Cp) (n:BitVec 32):Cp:={c with nx:=n}
def Cp.ou (c:Cp) (p:gG):Cp:={c with x:={c.x with side:=p.side,fG:=p.fG},q:=ar7 p}
def Cp.nV (c:Cp) (l a b:Int) (f:Bool):Cp:={c with x:={c.x with sl:=l,sa:=a,sb:=b,free:=f}}
def Cp.kP (c:Cp) (a:Ma):Cp:={c with x:={c.x with ma:=a}}
def Cp.setAt (c:Cp) (n:Int):Cp:={c with x:={c.x with at_:=n}}
def Cp.wU (c:Cp) (b:Bool):Cp:={c with x:={c.x with held:=b}}
def Cp.lT (c:Cp) (l:List Int):Cp:={c with x:={c.x with stops:=l}}
def Cp.rQ (c:Cp) (x:Tr):Cp:={c with x:=x}
def Cp.say (c:Cp) (o:List (List UInt8)):Cp:={c with out:=o}
structure Cs where
  x:Tr
  m:kZ
  Ao:Option δ
  co:Nat
  out:List (List UInt8)
def Cs.plain (s:Cs):Cp:=⟨s.x,s.m.q,s.m.nx,s.out⟩
def Cs.cells (s:Cs) (tm:jl) (now:Int):Array Θ:=cbC tm now s.x s.m s.Ao s.out.length s.co
def zO (g:Nat) (s:Cs) (k:Nat):Prop:=k=g\/s.m.A3.map (·.block)=some k\/s.Ao.map (·.block)=some k
def rU (n:Nat) (A A':Option δ):Prop:= ∀k,A'.map (·.block)=some k->A.map (·.block)=some k\/n<=k
def rU.refl(n:Nat)(A:Option δ):rU n A A:=λ_ h=> .inl h
theorem rU.trans{n H:Nat}{A B C:Option δ}(h:rU n A B)(k:rU H B C)(hn:n<=H):rU n A C:=λb J=>by
 rcases k b J with e |e;.exact h b e
 omega
structure iw (g:Nat) (s s':Cs) (W W':ω):Prop where
  gr:jV (zO g s) W W'
  a3:rU W s.m.A3 s'.m.A3
  ao:rU W s.Ao s'.Ao
def iw.of_below{g:Nat}{s:Cs}{W W':ω}(h:W W'):iw g s s W W':=⟨jV.of_below h _,rU.refl _ _,rU.refl _ _⟩
theorem iw.trans{g:Nat}{s1 s2 N:Cs}{H W2 J:ω}(h:iw g s1 s2 H W2)(k:iw g s2 N W2 J):iw g s1 N H J:=⟨⟨k.gr.os.trans h.gr.os,k.gr.tape.trans h.gr.tape,k.gr.output.trans h.gr.output,aG h.gr.size k.gr.size,λb M hn=>by
 refine(k.gr.block b (aU M h.gr.size) ?_).trans (h.gr.block b M hn);rintro (e |e |e);.exact hn (.inl e)
 .rcases h.a3 b e with e |e;.exact hn (.inr (.inl e))
  .omega
 .rcases h.ao b e with e |e;.exact hn (.inr (.inr e))
  .omega⟩,h.a3.trans k.a3 h.gr.size,h.ao.trans k.ao h.gr.size⟩
theorem iw.put{g:Nat}{s s':Cs}{W W':ω}(M:W'.os=W.os)(O:W'.tape=W.tape)(U:W'.output=W.output)(N:W'.heap.size=W.heap.size)(J: ∀k,k≠g->W'.heap[k]? =W.heap[k]?)(H:s'.m.A3=s.m.A3)(hA:s'.Ao=s.Ao):iw g s s' W W':=⟨⟨M,O,U,bZ N.symm,λk _ hn=>J k (λe=>hn (.inl e))⟩,by rw[H];exact rU.refl _ _,by rw[hA];exact rU.refl _ _⟩
def D9 (W:ω) (Bq g:Nat) (s:Cs) (x:Option δ × Nat × Nat) (b:List UInt8):Prop:=fV Bq b (.slice x.1 x.2.1 x.2.2) W/\(b≠ []-> ∀a,x.1=some a-> ¬zO g s a.block)
theorem fV.ji{D:Nat->Prop}{w w':ω}{base:Nat}{bs:List UInt8}{v:Θ}(h:fV base bs v w)(H:jV D w w')(hn: ∀A n c,v=.slice A n c->bs≠ []-> ∀a,A=some a-> ¬D a.block):fV base bs v w':=by obtain⟨A,c,rfl,hB,Y⟩:=h;have N:=hn A _ c rfl;refine⟨A,c,rfl,hB.keep' H.size (λJ a e Z=>H.block _ Z (N J a e)),λJ=>?_⟩;obtain⟨g,rfl,O,M,U⟩:=Y J;have V:=H.block g M (N (by grind) _ rfl);exact⟨g,rfl,O,aU M H.size,λi hi=>(World.frozen?_of_block (a:=⟨g,i,none⟩) V).trans (U i hi)⟩
theorem fV.addr{base:Nat}{bs:List UInt8}{A:Option δ}{n c:Nat}{w:ω}(h:fV base bs (.slice A n c) w)(H:bs≠ []): ∃g,A=some ⟨g,0,none⟩/\base<=g/\g<w.heap.size:=by obtain⟨M,N,e,_,J⟩:=h;injection e with e1 e2 e3;subst e1;obtain⟨g,O,U,V,_⟩:=J (List.length_pos_iff.2 H);grind
theorem D9.turn{W W':ω}{Bq g:Nat}{s s':Cs}{x:Option δ × Nat × Nat}{b:List UInt8}(h:D9 W Bq g s x b)(M:iw g s s' W W'):D9 W' Bq g s' x b:=by
 refine⟨h.1.ji M.gr (λA n c e H a J=>by injection e with e1 _ _;subst e1;exact h.2 H a J),λH a J=>?_⟩;obtain⟨k,e1,_,O⟩:=h.1.addr H;have N:a.block<W.heap.size:=by grind
 have hn:=h.2 H a J;rintro (e |e |e);.exact hn (.inl e)
 .rcases M.a3 _ e with e |e;.exact hn (.inr (.inl e))
  .omega
 .rcases M.ao _ e with e |e;.exact hn (.inr (.inr e))
  .omega
def Ox:arb (Option δ × Nat × Nat):=⟨1,fun b=> [.slice b.1 b.2.1 b.2.2],fun _=>rfl,fun _ u hu=>by simp at hu;subst hu;rfl,by decide⟩
def amS:qo aj Ox 50 45 24:=arD (.slice none 0 0) underlying50 (by kernel_rfl) rfl
structure UA (W:ω) (Bq g:Nat) (s:Cs):Prop where
  row: ∃xs:List (Option δ × Nat × Nat),aq1 Ox 45 W Bq s.Ao s.co xs/\xs.length=s.out.length/\ ∀(i:Nat) x b,xs[i]? =some x->s.out[i]? =some b->D9 W Bq g s x b
structure iJ (w0:ω) (Bq g:Nat) (tm:jl) (now:Int) (s:Cs) (W:ω):Prop where
  own:Own w0 W [(g,87,s.cells tm now)]
  tr:nH W Bq s.x s.m
  out:UA W Bq g s
  lo:w0.heap.size<=Bq
  hi:Bq<=W.heap.size
section
variable {w0 W W':ω} {Bq g:Nat} {tm:jl} {now:Int} {s s':Cs}
def iJ.blk(h:iJ w0 Bq g tm now s W):fK W g 87 (s.cells tm now):=h.own.b0
def iJ.agM(h:iJ w0 Bq g tm now s W):w0.heap.size<=g:=(h.own.blk (g,87,s.cells tm now) (by simp)).1
def iJ.below(h:iJ w0 Bq g tm now s W):w0 W:=h.own.below
theorem iJ.amT(h:iJ w0 Bq g tm now s W): ∀k,zO g s k->w0.heap.size<=k:=by
 rintro k (e |e |e);.rw[e];exact h.agM
 .exact aG h.lo (h.tr.stops.gJ k e).1
 .obtain⟨xs,H,_⟩:=h.out.row;exact aG h.lo (H.gJ k e).1
theorem iJ.grow(h:iJ w0 Bq g tm now s W)(H:W W'):iJ w0 Bq g tm now s W':=⟨h.own.grow H,h.tr.below H,⟨by obtain⟨xs,N,M,hi⟩:=h.out.row;exact⟨xs,N.below H,M,λi x b O J=>(hi i x b O J).turn (iw.of_below H)⟩⟩,h.lo,aG h.hi H.size⟩
theorem iJ.put(h:iJ w0 Bq g tm now s W)(Z:Own w0 W' [(g,87,s'.cells tm now)])(J:iw g s s' W W')(O:W'.heap.size=W.heap.size)(hk: ∀k,k≠g->W'.heap[k]? =W.heap[k]?)(M:nH W Bq s'.x s'.m)(hA:s'.Ao=s.Ao)(hc:s'.co=s.co)(ho:s'.out=s.out)(U:s'.m.v.A1.map (·.block)≠some g)(V:s'.m.v.A2.map (·.block)≠some g)(Y:s'.m.A3.map (·.block)≠some g):iJ w0 Bq g tm now s' W':=by have H:jV (λk=>k=g) W W':=⟨J.gr.os,J.gr.tape,J.gr.output,bZ O.symm,λk _ hn=>hk k hn⟩;refine⟨Z,{M with path:=M.path.ji H (λk e d=>U (by rw[e,d])),fP:=M.fP.ji H (λk e d=>V (by rw[e,d])),stops:=M.stops.ji H (λk e d=>Y (by rw[e,d]))},⟨?_⟩,h.lo,by rw[O];exact h.hi⟩;obtain⟨xs,N,hl,hi⟩:=h.out.row;rw[hA,hc,ho];exact⟨xs,N.ji H (λk e d=>ard N h.blk (by decide) (by rw[e,d])),hl,λi x b hx hb=>(hi i x b hx hb).turn J⟩
theorem iJ.turn{L:List Bk}(h:iJ w0 Bq g tm now s W)(N:iJ w0 Bq g tm now s' W')(Z:iw g s s' W W')(U:Own w0 W ((g,87,s.cells tm now)::L))(O: ∀y∈L,y.1<Bq\/(y.2.1≠3/\y.2.1≠45)):Own w0 W' ((g,87,s'.cells tm now)::L):=by
 have Y:=U.nodup;rw[List.map_cons,List.nodup_cons]at Y;refine⟨N.below,λy J=>?_,by grind⟩;rcases bJ.1 J with rfl |J;.exact N.own.blk _ (by simp)
 .have M:=U.blk y (List.mem_cons_of_mem _ J);refine⟨M.1,M.2.ji Z.gr ?_⟩;rintro (e |e |e);.grind
  .rcases O y J with H |H;(.have:=(h.tr.stops.gJ _ e).1;omega);.exact ard h.tr.stops M.2 H.1.symm e
  .obtain⟨xs,V,_⟩:=h.out.row;rcases O y J with H |H;(.have:=(V.gJ _ e).1;omega);.exact ard V M.2 H.2.symm e
end
section
variable {P:χ} {ops:Array ο} {rest:List ο} {o:ο} {a:Act} {w W:ω} {Q:Exit->Act->ω->Prop}
theorem wB(W:ω)(g i:Nat)(t ty:τ)(cs vs:Array Θ)(d:TypeDesc)(O:fK W g t cs)(Z:(cs.toList.drop i).take vs.size=vs.toList)(Y:P.underlying ty=some d)(hd:(match d with | .struct _ | .array _ _=>true |_=>false)=true)(hi:(P.info? ty).map (·.size)=some vs.size):(loadVar ty ⟨g,i,none⟩).run P W=.ok vs W:=by
 have J:(loadCells ⟨g,i,none⟩ vs.toList.length).run P W=.ok vs.toList.toArray W:=run_loadCells_list (P:=P) W ⟨g,i,none⟩ vs.toList (λj v H=>by
  have M:(⟨g,i,none⟩:δ).add j=⟨g,i+j,none⟩:=by unfold Addr.add;split <;> simp_all
  rw[M,O.cell,<-Array.getElem?_toList];rw[<-Z,List.getElem?_take]at H;split at H;.grind
  .cases H)
 cases U:P.info? ty with
 |none=>grind
 |some aa=>
  have V:aa.size=vs.size:=by grind
  have N:(isAgg ty).run P W=.ok true W:=by unfold isAgg;rw[Sem.run_bind,ν Y W];cases d <;> simp_all
  simp only[Array.length_toList,Array.toArray_toList]at J;simp[loadVar,Sem.run_bind,N,sizeOf,typeInfo,U,V,J]
def wC{L:List Bk}{g:Nat}{t:τ}{cs:Array Θ}{K:Act->ω->Prop}(H:Own w W ((g,t,cs)::L))(i:Nat)(vs:Array Θ)(O:(cs.toList.drop i).take vs.size=vs.toList)(ty:τ)(x:κ)(M:o.op=.load ty x)(U:a.eval x=.pointer (some ⟨g,i,none⟩))(d:TypeDesc)(N:P.underlying ty=some d)(J:(match d with | .struct _ | .array _ _=>true |_=>false)=true)(hi:(P.info? ty).map (·.size)=some vs.size)(h:K (a.put o.dst vs) W):o.wp P a W K Q:=by unfold Oper.wp execOp;simp only[M,U,Instr.loadAt,Instr.sureAddr,Sem.run_bind,Sem.run_pure,dO,wB W g i t ty cs vs d H.b0 O N J hi];exact h
def qO{L:List Bk}{g:Nat}{t:τ}{cs:Array Θ}(J:Own w W ((g,t,cs)::L))(i:Nat)(vs:Array Θ)(U:(cs.toList.drop i).take vs.size=vs.toList)(V:aF o (ψ ops a.tmps)=true)(ty:τ)(x:κ)(N:o.op=.load ty x)(Y:a.eval x=.pointer (some ⟨g,i,none⟩))(d:TypeDesc)(O:P.underlying ty=some d)(M:(match d with | .struct _ | .array _ _=>true |_=>false)=true)(hi:(P.info? ty).map (·.size)=some vs.size)(h:Δ P ops Q rest (a.put o.dst vs) W):Δ P ops Q (o::rest) a W:=arP V λK H=>by unfold Oper.wp execOp;simp only[N,Y,Instr.loadAt,Instr.sureAddr,Sem.run_bind,Sem.run_pure,dO,wB W g i t ty cs vs d J.b0 U O M hi];exact H _ _ h
end
theorem iJ.akt{w0 W:ω}{Bq g:Nat}{tm:jl}{now:Int}{s:Cs}(h:iJ w0 Bq g tm now s W): ∀k,zO g s k->k<W.heap.size:=by
 rintro k (e |e |e);.rw[e];exact h.blk.lt
 .exact(h.tr.stops.gJ k e).2
 .obtain⟨xs,H,_⟩:=h.out.row;exact(H.gJ k e).2
theorem iw.off{g:Nat}{s s':Cs}{W W':ω}(H:iw g s s' W W'){k:Nat}(J:k<W.heap.size)(hn: ¬zO g s k): ¬zO g s' k:=by
 rintro (e |e |e);.exact hn (.inl e)
 .rcases H.a3 _ e with e |e;.exact hn (.inr (.inl e))
  .omega
 .rcases H.ao _ e with e |e;.exact hn (.inr (.inr e))
  .omega
structure arz (W:ω) (g:Nat) (s:Cs) (b:Nat) (t:τ) (cs:Array Θ):Prop where
  blk:fK W b t cs
  off: ¬zO g s b
def arz.turn{W W':ω}{g:Nat}{s s':Cs}{b:Nat}{t:τ}{cs:Array Θ}(h:arz W g s b t cs)(H:iw g s s' W W'):arz W' g s' b t cs:=⟨h.blk.ji H.gr h.off,H.off h.blk.lt h.off⟩
def arz.below{W W':ω}{g:Nat}{s:Cs}{b:Nat}{t:τ}{cs:Array Θ}(h:arz W g s b t cs)(H:W W'):arz W' g s b t cs:=⟨h.blk.below H h.blk.lt,h.off⟩
def iJ.beside{w0 w W:ω}{Bq g:Nat}{tm:jl}{now:Int}{s:Cs}(h:iJ w0 Bq g tm now s w){b:Nat}{t:τ}{cs:Array Θ}(H:fK W b t cs)(M:w.heap.size<=b):arz W g s b t cs:=⟨H,λJ=>by have:=h.akt b J;omega⟩
def pY (w0:ω) (Bq g:Nat) (tm:jl) (now:Int) (s:Cs) (W:ω) (F:Cp) (W':ω):Prop:= ∃s',iJ w0 Bq g tm now s' W'/\iw g s s' W W'/\s'.plain=F
def pY.same{w0 W W':ω}{Bq g:Nat}{tm:jl}{now:Int}{s:Cs}(h:iJ w0 Bq g tm now s W)(H:W W'):pY w0 Bq g tm now s W s.plain W':=⟨s,h.grow H,iw.of_below H,rfl⟩
def pY.trans{w0 W H W2:ω}{Bq g:Nat}{tm:jl}{now:Int}{s s1:Cs}{F:Cp}(O:iw g s s1 W H)(h:pY w0 Bq g tm now s1 H F W2):pY w0 Bq g tm now s W F W2:=by obtain⟨s',J,M,N⟩:=h;exact⟨s',J,O.trans M,N⟩
def iJ.Ea{w0 W W':ω}{Bq g:Nat}{tm:jl}{now:Int}{s s':Cs}(h:iJ w0 Bq g tm now s W)(J:Own w0 W' [(g,87,s'.cells tm now)])(U:W'.heap.size=W.heap.size)(O: ∀k,k≠g->W'.heap[k]? =W.heap[k]?)(e:s'.x.ma=s.x.ma/\s'.x.stops=s.x.stops/\s'.m.v=s.m.v/\s'.m.A3=s.m.A3/\s'.m.n3=s.m.n3/\s'.m.c3=s.m.c3/\s'.Ao=s.Ao/\s'.co=s.co/\s'.out=s.out):iJ w0 Bq g tm now s' W'/\iw g s s' W W':=by
 obtain⟨e1,e2,e3,e4,M,Y,N,Z,e9⟩:=e;have V:iw g s s' W W':=iw.put (J.below.os.trans h.below.os.symm) (J.below.tape.trans h.below.tape.symm) (J.below.output.trans h.below.output.symm) U O e4 N;have H:=h.tr;refine⟨h.put J V U O ⟨by rw[e1,e3];exact H.path,by rw[e1,e3];exact H.fP,by rw[e2,e4,Y];exact H.stops,by rw[e1,e3];exact H.e1,by rw[e1,e3];exact H.e2,by rw[e2,M];exact H.e3,by rw[e3];exact H.l1,by rw[e3];exact H.l2,by rw[M];exact H.l3⟩ N Z e9 ?_ ?_ ?_,V⟩;.rw[e3];exact ard H.path h.blk (by decide)
 .rw[e3];exact ard H.fP h.blk (by decide)
 .rw[e4];exact ard H.stops h.blk (by decide)
def Cs.su (s:Cs) (b:Bool):Cs:={s with x:={s.x with on:=b}}
def Cs.setLast (s:Cs) (n:Int):Cs:={s with x:={s.x with last:=n}}
def Cs.Uz (s:Cs) (n:BitVec 32):Cs:={s with m:={s.m with nx:=n}}
def Cs.ou (s:Cs) (p:gG):Cs:={s with x:={s.x with side:=p.side,fG:=p.fG},m:={s.m with q:=ar7 p}}
def Cs.nV (s:Cs) (l a b:Int) (f:Bool):Cs:={s with x:={s.x with sl:=l,sa:=a,sb:=b,free:=f}}
def Cs.kP (s:Cs) (a:Ma) (v:DF):Cs:={s with x:={s.x with ma:=a},m:={s.m with v:=v}}
def Cs.setAt (s:Cs) (n:Int):Cs:={s with x:={s.x with at_:=n}}
def Cs.wU (s:Cs) (b:Bool):Cs:={s with x:={s.x with held:=b}}
def Cs.lT (s:Cs) (l:List Int) (A:Option δ) (n c:Nat):Cs:={s with x:={s.x with stops:=l},m:={s.m with A3:=A,n3:=n,c3:=c}}
def Cs.rQ (s:Cs) (x:Tr) (m:kZ):Cs:={s with x:=x,m:=m}
def Cs.Eb (s:Cs) (o:List (List UInt8)) (A:Option δ) (c:Nat):Cs:={s with out:=o,Ao:=A,co:=c}
section
variable (tm:jl) (now:Int) (s:Cs)
def tK:(s.cells tm now).size=54:=rfl
def UC(b:Bool):(s.cells tm now).setIfInBounds 37 (.bool b)=(s.su b).cells tm now:=rfl
def agN(n:Int):(s.cells tm now).setIfInBounds 36 (.int .i64 n)=(s.setLast n).cells tm now:=rfl
def amU(n:BitVec 32):(s.cells tm now).setIfInBounds 31 (q32 n)=(s.Uz n).cells tm now:=rfl
def Jg(p:gG):arh (s.cells tm now) 15 (gB p).toList=(s.ou p).cells tm now:=by kernel_rfl
def ad7(l a b:Int)(f:Bool):arh (s.cells tm now) 32 (#[.int .i64 l,.int .i64 a,.int .i64 b,.bool f]:Array Θ).toList=(s.nV l a b f).cells tm now:=by rfl
def ad8(a:Ma)(v:DF):arh (s.cells tm now) 44 (nO a v).toList=(s.kP a v).cells tm now:=by rfl
def amV(n:Int):(s.cells tm now).setIfInBounds 49 (.int .i64 n)=(s.setAt n).cells tm now:=rfl
def agO(b:Bool):(s.cells tm now).setIfInBounds 50 (.bool b)=(s.wU b).cells tm now:=rfl
def ad9(x:Tr)(m:kZ):arh (s.cells tm now) 4 (jf x m).toList=(s.rQ x m).cells tm now:=by kernel_rfl
def aku(o:List (List UInt8))(A:Option δ)(c:Nat):(s.cells tm now).setIfInBounds 53 (.slice A o.length c)=(s.Eb o A c).cells tm now:=rfl
def Cb(p:gG):15+(gB p).size<=(s.cells tm now).size:=by repeat' constructor
theorem XD(l a b:Int)(f:Bool):32+(#[.int .i64 l,.int .i64 a,.int .i64 b,.bool f]:Array Θ).size<=(s.cells tm now).size:=by constructor<;>simp_all
def QC(a:Ma)(v:DF):44+(nO a v).size<=(s.cells tm now).size:=by repeat' constructor
def QD(x:Tr)(m:kZ):4+(jf x m).size<=(s.cells tm now).size:=by repeat' constructor
def oU:((s.cells tm now).toList.drop 4).take (jf s.x s.m).size=(jf s.x s.m).toList:=by rfl
def pG:((s.cells tm now).toList.drop 15).take (gB s.plain.peer).size=(gB s.plain.peer).toList:=by rfl
def zl:((s.cells tm now).toList.drop 44).take (nO s.x.ma s.m.v).size=(nO s.x.ma s.m.v).toList:=by rfl
def sW:((s.cells tm now).toList.drop 0).take tm.cells.size=tm.cells.toList:=by rfl
def Ih:((s.cells tm now).toList.drop 38).take 3= [.int .i64 s.x.pos.edge,.int .i64 s.x.pos.at_,.bool s.x.pos.rev]:=by rfl
end
end
def nM (c:Cp) (q:P7):Cp:=if may q=true then c.say (c.out++ [enc q]) else c
def XE(h:fK w g 45 #[.slice x.1 x.2.1 x.2.2]):fE Ox w g [x]:=λ_=>⟨g,0,rfl,h.lt,λj u H=>by rw[aJ,h.cell,<-Array.getElem?_toList];exact H⟩
theorem iJ.said{J:ω}{s:Cs}(h:iJ w0 Bq g tm now s W){xs:List (Option δ × Nat × Nat)}(hl:xs.length=s.out.length)(Z:aq1 Ox 45 W Bq s.Ao s.co xs)(hi: ∀(i:Nat) x b,xs[i]? =some x->s.out[i]? =some b->D9 W Bq g s x b){b:List UInt8}(hx:D9 W Bq g s x b){c2:Nat}(ho:aq1 Ox 45 J Bq A2 c2 (xs++ [x]))(U:W.grownBy J (s.Ao.map (·.block)))(hn:A2.map (·.block)=s.Ao.map (·.block)\/A2.map (·.block)=some W.heap.size)(n:Nat)(ak:n=s.out.length+1):iJ w0 Bq g tm now (s.Eb (s.out++ [b]) A2 c2) (J.setCell ⟨g,53,none⟩ (.slice A2 n c2))/\iw g s (s.Eb (s.out++ [b]) A2 c2) W (J.setCell ⟨g,53,none⟩ (.slice A2 n c2)):=by
 have al:s.Ao.map (·.block)≠some g:=ard Z h.blk (by decide);have ad:fK J g 87 (s.cells tm now):=h.blk.grown U (λe=>al e.symm);have af: ∀k,k≠g->(J.setCell ⟨g,53,none⟩ (.slice A2 n c2)).heap[k]? =J.heap[k]? :=λk H=>aN J ⟨g,53,none⟩ _ k H;have V:jV (λk=>k=g\/s.Ao.map (·.block)=some k) W (J.setCell ⟨g,53,none⟩ (.slice A2 n c2)):=⟨U.os,U.tape,U.output,by simpa[dD] using U.size,λk H Y=>(af k (λe=>Y (.inl e))).trans (U.block k H (λe=>Y (.inr e.symm)))⟩;have ac:jV (zO g s) W (J.setCell ⟨g,53,none⟩ (.slice A2 n c2)):=V.mono (λk H=>by
  rcases H with e |e;.exact .inl e
  .exact .inr (.inr e))
 have aa:iw g s (s.Eb (s.out++ [b]) A2 c2) W (J.setCell ⟨g,53,none⟩ (.slice A2 n c2)):=⟨ac,rU.refl _ _,λk e=>by have e':A2.map (·.block)=some k:=e;grind⟩;have ag:w0 (J.setCell ⟨g,53,none⟩ (.slice A2 n c2)):=h.below.trans (ac.below h.below.size h.amT);have hc:fK (J.setCell ⟨g,53,none⟩ (.slice A2 n c2)) g 87 ((s.Eb (s.out++ [b]) A2 c2).cells tm now):=by have:=ad.iV 53 (.slice A2 n c2);rw[ak,show s.out.length+1=(s.out++ [b]).length by simp,aku]at this;grind
 have M:=h.tr;refine⟨⟨⟨ag,λy N=>?_,by simp⟩,{M with path:=M.path.ji V ?_,fP:=M.fP.ji V ?_,stops:=M.stops.ji V ?_},⟨xs++ [x],?_,by simp[Cs.Eb,hl],?_⟩,h.lo,aG h.hi V.size⟩,aa⟩;.simp only[dN]at N;subst N;exact⟨h.agM,hc⟩
 .rintro k H (e |e);.exact ard M.path h.blk (by decide) (by grind)
  .exact oQ M.path Z (by decide) k H e
 .rintro k H (e |e);.exact ard M.fP h.blk (by decide) (by grind)
  .exact oQ M.fP Z (by decide) k H e
 .rintro k H (e |e);.exact ard M.stops h.blk (by decide) (by grind)
  .exact oQ M.stops Z (by decide) k H e
 .refine aq1.ji (D:=λk=>k=g) ho ⟨rfl,rfl,rfl,by simp,λk _ Y=>af k Y⟩ (λk H e=>ard ho ad (by decide) (by subst e;exact H))
 .intro i y c N ae;by_cases ai:i<xs.length;.rw[dP ai]at N;have O:(s.out++ [b])[i]? =some c:=ae;rw[dP (by omega)]at O;exact(hi i y c N O).turn aa
  .rw[List.getElem?_append_right (by omega)]at N;have O:(s.out++ [b])[i]? =some c:=ae;rw[List.getElem?_append_right (by omega)]at O;(have h0:i-xs.length=0:=by grind);rw[h0]at N;rw[<-hl,h0]at O;simp at N O;subst N;subst O;exact hx.turn aa
theorem QE{s:Cs}(h:iJ w0 Bq g tm now s W)(q:P7)(A:Option δ)(n c:Nat)(hn:n=q.body.length)(hB:aq2 W A c q.body)(aq:q.body.length<=2000)(aM:s.out.length<=100):Γ aj 58 #[.pointer g,jT q A n c] W λe W'=>e=.returned (.tuple #[])/\pY w0 Bq g tm now s W (nM s.plain q) W':=by
 have J:Own W _ [_]:=Own.jD W 136 (jT q A n c);have M:=adS q A n c _ hn (hB.below J.below) aq;have aD:=J.b0.cell;unfold jT at*;obtain⟨W1,al⟩:=fD (W.alloc (.cells #[q.kind,q.dir,q.fG,q32 q.a,q32 q.b,.slice A n c,q64 q.je] 136));obtain⟨no,aa⟩:=fD s.out.length;have HN:=ah aa;clear hn;cases hm:may q with
 |false=>
  rw[hm]at M;simp only[bU,if_false]at M;have hF:nM s.plain q=s.plain:=by rw[nM,hm];rfl
  rw[hF];go_enter func58,ntmps58;go_wp2_with((with_reducible refine M.mono ?_);rintro e H⟨v,rfl,_,Y⟩);go_end0;exact⟨rfl,pY.same h (J.grow Y).below⟩
 |true=>
  rw[hm]at M;simp only[if_true]at M;have hF:nM s.plain q=s.plain.say (s.out++ [enc q]):=by rw[nM,hm];rfl
  rw[hF];have az:(s.cells tm now)[53]? =some (.slice s.Ao no s.co):=by rw[aa];rfl
  clear hm al aa;go_enter func58,ntmps58;go_upto_region 3 with((with_reducible refine M.mono ?_);rintro e H⟨v,rfl,N,Y⟩)
  obtain⟨Av,cv,rfl,av⟩:=id N;have V:=J.grow Y;have ag:=h.grow V.below;obtain⟨bl,ad⟩:=fD ((enc q).length);rw[<-ad]at N |-;have Z:H (H.alloc (.cells #[.slice Av bl cv] 45)):=gY.alloc ig _;have U:=ag.grow Z;obtain⟨xs,hr,hl,hi⟩:=U.out.row;have an:xs.length=no:=hl.trans HN.out.symm;have ap:no+1<=65536:=by omega
  have am:D9 (H.alloc (.cells #[.slice Av bl cv] 45)) Bq g s (Av,bl,cv) (enc q):=by refine⟨?_,λh0 a O hd=>?_⟩;(.exact(N.mono (aG h.hi J.below.size)).grow Z);.obtain⟨k,e1,aE,aL⟩:=N.addr h0;rw[e1]at O;injection O with O;have:=h.akt _ hd;have h2:=J.below.size;rw[<-O]at this;simp only at this;omega
  have ak:=U.hi;have au:fE Ox (H.alloc (.cells #[.slice Av bl cv] 45)) H [(Av,bl,cv)]:=XE (fK.new _ _ _);have af:=U.blk;have Tc:=ag.blk.cell;have ai:s.Ao.map (·.block)≠some g:=ard hr af (by decide);clear N av ad;go_wp2_with(first|(at_builtin;(with_reducible refine gW amS rfl _ _ rfl Bq s.Ao s.co xs no rfl an hr _ 1 [(Av,bl,cv)] 1 rfl rfl au ap (by decide) ak ?_);intro A2 c2 w5 uq ae ar;have ac:=af.grown ae (λe=>ai e.symm);have aw:=ac.cell;have ax:=ac.frozen));obtain⟨h1,h2⟩:=U.said hl hr hi am uq ae ar (no+1) (by omega);refine bodyPost_end (results_none rfl _ _ _) rfl ⟨rfl,s.Eb (s.out++ [enc q]) A2 c2,h1,(iw.of_below (V.below.trans (Z.mono V.below.size))).trans h2,rfl⟩
def Lh (id:Int):Bool:=decide (id=132) || decide (id=136) || decide (id=147) || decide (id=157)
def IW (now:Int) (c:Cp) (id:Int) (v:List Int):Ms:=⟨id,Z5 c.x.last now,0,c.x.id,v,if Lh id then [⟨0,MH c.x⟩] else []⟩
def nY (now:Int) (c:Cp) (id:Int) (v:List Int):Cp × Int:=if Ub c.x.last now≠0 then(c,Ub c.x.last now) else if Lh id=true/\rpE c.x≠0 then(c,rpE c.x) else match DY (IW now c id v) with
 | .error e=>(c,e)
 | .ok b=>if wz c.peer b≠0 then(c,wz c.peer b) else(nM (c.setLast (Z5 c.x.last now)) (yh c.peer b),0)
def Lj (now:Int) (c:Cp) (id:Int) (v:List Int):Cp × Int:=if c.x.on=false then(c,6) else nY now c id v
def QI (c:Cp):Cp × Int:=if MP c.peer≠0 then(c,MP c.peer) else(nM (((c.ou (adW c.peer c.nx)).su false).Uz (c.nx+1)) (aav c.peer c.nx),0)
def QJ (c:Cp) (why:UInt8):Cp × Int:=if IV c.peer≠0 then(c,IV c.peer) else(nM ((c.ou (arV c.peer)).su false) (MQ c.peer why),0)
def pJ (x:Tr):Tr:={x with ma:=⟨0,false,[],[],0⟩,at_:=0,held:=false}
def OA (now:Int) (c:Cp):Cp:=if c.x.held=true/\jB c.x.ma.fP (wrap64 (now-c.x.at_)) 0=0 then c.rQ (pJ c.x) else c
def Dn (m:Ms):Bool:=match m.p with
 | []=>false
 |p::_=>match p.v with
   | []=>false
   |n::_=>decide (n=0)
def atM (m:Ms):Int:=wrap64 (m.t.tdiv 8)
def FQ (t:Tp) (now:Int) (c:Cp) (m:Ms):Cp:=if c.x.on=false\/0<c.x.stops.length then c else match ql t m.sS (Dn m) m.p with
 | .error _=>c
 | .ok n=>if 268435456<atM m then c else
   match qZ t n c.x.pos with
   |none=>c
   |some f=>if f<jB n.fP (wrap64 (now-atM m)) 0 then((c.kP n).setAt (atM m)).wU true else c
def Hf (m:Ma):Int:=qg m
def Cc (path w:List St):Bool:=decide (w.length<=path.length)&&decide (path.take w.length=w)
def oW (t:Tp) (c:Cp) (m:Ms):Cp × Bool:=match jR t c.x with
 |none=>(c,false)
 |some f=>if m.sS≠c.x.ma.ref then(c,false) else
   match ql t m.sS c.x.ma.rev m.p with
   | .error _=>(c,false)
   | .ok n=>if Cc c.x.ma.path n.path=false\/Hf c.x.ma<Hf n\/Hf n<wrap64 (f+c.x.rl.wI) then(c,false) else(c.kP (nN c.x.ma (Hf n)),true)
def Bo (t:Tp) (c:Cp) (m:Ms):Cp × Int:=match jR t c.x with
 |none=>(c,1)
 |some f=>if Ud (m.v.getD 4 0) (m.v.getD 1 0)≠0\/m.sS≠c.x.ma.ref\/II (m.v.getD 4 0) (m.v.getD 1 0)<f then(c,1) else(if(nN c.x.ma (II (m.v.getD 4 0) (m.v.getD 1 0))).fP.length=0 then(c.kP (nN c.x.ma (II (m.v.getD 4 0) (m.v.getD 1 0)))).rQ (pJ (c.kP (nN c.x.ma (II (m.v.getD 4 0) (m.v.getD 1 0)))).x) else c.kP (nN c.x.ma (II (m.v.getD 4 0) (m.v.getD 1 0))),0)
def Hg (l:List Int) (n:Int):Nat:=l.countP (· <n)
def XJ (l:List Int) (n:Int):List Int:=if n∈l then l else l.take (Hg l n)++n::l.drop (Hg l n)
def kT (t:Tp) (now:Int) (c:Cp) (m:Ms):Cp:=if m.id=32 then(if m.v.headD 0=16 then(nY now (nY now (c.su true) 159 []).1 157 [1]).1 else c) else if m.id=3 then FQ t now c m else if m.id=9 then(nY now (oW t c m).1 (if(oW t c m).2 then 137 else 138) [m.t]).1 else if m.id=15 then(nY now (Bo t c m).1 147 [m.v.headD 0,(Bo t c m).2]).1 else if m.id=16 then(nY now ((c.lT (XJ c.x.stops (m.v.headD 0))).rQ (pJ (c.lT (XJ c.x.stops (m.v.headD 0))).x)) 147 [m.v.headD 0,2]).1 else if m.id=18 then c.lT (c.x.stops.filter fun n=>decide (n≠m.v.headD 0)) else if m.id=39 then(QJ c 0).1 else c
def UM (now:Int) (c:Cp) (m:Ms):Cp:=(nY now c 146 [m.t]).1
def Bv (t:Tp) (now:Int) (c:Cp) (q:P7):Cp × Int:=if jw c.peer q 5≠0 then(c,jw c.peer q 5) else match arN q.body with
 | .error e=>(c,e)
 | .ok m=>if PW m.id=true then(c,1) else if Dl c.x.sl c.x.sa c.x.sb c.x.free m.t (now*8)=110/\m.ack=1/\m.t=c.x.sl then(UM now c m,0) else if Dl c.x.sl c.x.sa c.x.sb c.x.free m.t (now*8)≠0 then(c,Dl c.x.sl c.x.sa c.x.sb c.x.free m.t (now*8)) else(if m.ack=1 then UM now (kT t now (c.nV m.t c.x.sa c.x.sb false) m) m else kT t now (c.nV m.t c.x.sa c.x.sb false) m,0)
def wW (t:Tp) (now:Int) (c:Cp) (b:List UInt8):Cp × Int:=match vY b with
 |none=>(c,8)
 |some q=>if q.kind=2 then(if iT c.peer q≠0 then(c,iT c.peer q) else((nY now (nM ((c.ou (wu c.peer q)).su false) (rP c.peer q)) 155 []).1,0))
   else if q.kind=6 then(if jw c.peer q 6≠0 then(c,jw c.peer q 6) else((c.ou (GY c.peer q)).su false,0))
   else if q.kind=5 then Bv t now c q
   else(c,1)
theorem aeo{l:List (Int × Int)}(h:C9 l=.error er):er≠0:=by unfold C9 at h;grind
theorem Ii: ∀ {l:List Pk} {er:Int},jd l=.error er->er≠0
 | [],_,h=>by cases h
 |p::ps,er,h=>by
  rw[jd]at h;cases hi:mO p with
  |error e=>rw[hi]at h;cases h;exact Gw hi
  |ok x=>
   rw[hi]at h;cases H:jd ps with
   |error e=>rw[H]at h;cases h;exact Ii H
   |ok y=>grind
theorem ag2(h:DY m=.error er):er≠0:=by
 unfold DY at h;split at h;.grind
 split at h;.grind
 split at h;.grind
 cases hi:jd m.p with
 |error e=>rw[hi]at h;cases h;exact Ii hi
 |ok H=>
  rw[hi]at h;simp only at h;split at h;.grind
  .exact aeo h
def aaH{s:Cs}{v:List Int}(h:Ub s.x.last now≠0):nY now s.plain id v=(s.plain,Ub s.x.last now):=by unfold nY;exact Υ h
def aep{s:Cs}{v:List Int}(h:Ub s.x.last now=0)(J:Lh id=true)(M:rpE s.x≠0):nY now s.plain id v=(s.plain,rpE s.x):=by unfold nY;rw[Ξ (λH=>H h)];exact Υ ⟨J,M⟩
def aer{s:Cs}{v:List Int}(h:Ub s.x.last now=0)(J: ¬(Lh id=true/\rpE s.x≠0)):nY now s.plain id v=match DY (IW now s.plain id v) with
    | .error e=>(s.plain,e)
    | .ok b=>if wz s.plain.peer b≠0 then(s.plain,wz s.plain.peer b) else(nM (s.plain.setLast (Z5 s.x.last now)) (yh s.plain.peer b),0):=by
  unfold nY
  rw[Ξ (λH=>H h)]
  exact Ξ J
def aes{s:Cs}{v:List Int}(h:Lh id=false):oC (IW now s.plain id v) ⟨A,c,none,0⟩= #[.int .i64 id,.int .i64 (Z5 s.x.last now),.int .i64 0,.int .i64 s.x.id,.slice A v.length c,.slice none 0 0]:=by unfold oC IW;rw[h];rfl
def aeu{s:Cs}{v:List Int}{B:Option δ}(h:Lh id=true):oC (IW now s.plain id v) ⟨A,c,B,1⟩= #[.int .i64 id,.int .i64 (Z5 s.x.last now),.int .i64 0,.int .i64 s.x.id,.slice A v.length c,.slice B 1 1]:=by unfold oC IW;rw[h];rfl
theorem Own.one{x:Bk}{L:List Bk}(h:Own w W (x::L)):Own w W [x]:=⟨h.below,λy H=>h.blk y (bJ.2 (.inl (by grind))),by simp⟩
theorem aaI{p:gG}{bs:List UInt8}(h:bs.length<=1023):(yh p bs).body.length<=2000:=by
 unfold yh;split
 .have:(jA p.key (yg p bs)).body=bs:=by unfold jA;split <;> rfl
  grind
 decide
def iK (w0:ω) (Bq g:Nat) (tm:jl) (now:Int) (s:Cs) (W:ω) (R:Cp × Int) (e:ε) (W':ω):Prop:=e=.returned (.int .i64 R.2)/\pY w0 Bq g tm now s W R.1 W'
def iK.same{s:Cs}(h:iJ w0 Bq g tm now s W)(H:W W')(J:e=.returned er):iK w0 Bq g tm now s W (s.plain,er) e W':=⟨J,pY.same h H⟩
def XK(now:Int)(c:Cp)(id:Int)(v:List Int):(IW now c id v).p=if Lh id then [⟨0,MH c.x⟩] else []:=rfl
def ag3(x:Tr):(MH x).length<=13:=by unfold MH;split <;> simp
theorem akG{c:Cp}{v:List Int}(M:fE aq7 W A v)(hc:v.length<=cv)(N:v.length<=100)(J:Lh id=false):P8 W (IW now c id v) ⟨A,cv,none,0⟩:=by
 have H:(IW now c id v).p= []:=by rw[XK,J];rfl
 exact⟨M,by rw[H];exact⟨[],fE.nil _ _,rfl,rfl,λi x p O=>by cases O⟩,hc,by grind,aG N (by decide),by grind,by grind⟩
theorem ag4{c:Cp}{v:List Int}(V:fE aq7 W A v)(hc:v.length<=cv)(Y:v.length<=100)(U:Lh id=true)(O:fK W b 198 #[zI,.slice A2 (MH c.x).length (MH c.x).length])(N:fE aq7 W A2 (MH c.x)):P8 W (IW now c id v) ⟨A,cv,b,1⟩:=by
 have H:(IW now c id v).p= [⟨0,MH c.x⟩]:=by rw[XK,U];rfl
 have M:=ag3 c.x
 exact ⟨V, by rw [H]; exact ⟨[⟨0, A2, (MH c.x).length, (MH c.x).length⟩], Ob O, rfl, rfl, λi x p J H=> by
   cases i with
   |zero=>
     simp only[eP,aO]at J H
     subst J
     subst H
     exact⟨rfl,aW _,aG M (by decide),N⟩
   |succ i=>simp at J⟩,hc,by rw[H];exact aW _,aG Y (by decide),by rw[H];exact(by decide:1<=60000),by
     rw[H]
     intro p H
     simp only[dN]at H
     subst H
     exact aG M (by decide)⟩
def QK(tm:jl)(now:Int)(s:Cs):(s.cells tm now).all (λv=> !is8 v)=true:=by simp[Cs.cells,cbC,is8,q32]
theorem UN{s:Cs}(hT:Tab w0)(h:iJ w0 Bq g tm now s W)(id:Int)(v:List Int)(A:Option δ)(n c:Nat)(hv:fE aq7 W A v)(hn:n=v.length)(hc:n<=c)(ba:v.length<=100)(ci:s.out.length<=90)(ch: -1<=s.x.last):
    Γ aj 61 #[.pointer (some ⟨g,0,none⟩),.int .i64 id,.slice A n c] W (iK w0 Bq g tm now s W (nY now s.plain id v)):=by
  obtain⟨R,hR⟩:=fD (nY now s.plain id v)
  rw[<-hR]
  have HR:=ah hR
  have O:=ah h
  have HN:=ah hn
  have ar:=λW=>agm s.x.last now (by omega) W
  obtain⟨te,a7⟩:=fD (Ub s.x.last now)
  obtain⟨tn,a8⟩:=fD (Z5 s.x.last now)
  rw[<-a7,<-a8]at ar
  have al:=ah a7
  have av:=ah a8
  have bR:(s.cells tm now)[36]? =some (.int .i64 s.x.last):=rfl
  have bS:(s.cells tm now)[52]? =some (.int .i64 now):=rfl
  have c4:(s.cells tm now)[4]? =some (.int .i64 s.x.id):=rfl
  have a4:=h.blk
  have bk:=a4.lt
  clear hR a7 a8 hn ch
  go_enter func61,ntmps61
  go_upto_region 1 with fail
  apply jJ []
  case lX=>intro u;simp only[bV,aq9,aP,ay,aA,aB,aT,aJ];rfl
  case hm=>kernel_rfl
  case hB=>kernel_rfl
  case hap=>kernel_rfl
  repeat (first |(apply jI.is;·(intro u w' V N;simp[fH,aC,Is]at N;refine fC ?_ ?_;(·(first |rfl |(simp[aF,ψ,N];done)));intro K hK;have V:=V.below ig (by intro k o h;simp at h);have bi:=(a4.below V bk);have ap:=bi.cell 36;rw[bR]at ap;have cd:=bi.cell 52;rw[bS]at cd;go_wp2_with (((with_reducible refine(ar _).mono ?_);rintro e w3⟨rfl,cn⟩;obtain rfl:=cn.symm));(try simp only[N]at hK);refine hK _ _ ?_ rfl;first |exact Stp.refl _ _ |exact Stp.of_below hb3 _)))
  refine jI.nil ?_ ?_
  ·
    simp[W2.fit,qy]
  intro u w7 V N
  simp only[gQ]at N
  replace V:=V.below ig (by intro k o h;simp at h)
  have aD:=N 13 _ rfl
  have aE:=N 14 _ rfl
  simp only[Is]at aD aE
  clear N
  simp only[aD,aE]
  clear aD aE
  have bb:=a4.below V bk
  have ap:=bb.cell 4
  rw[c4]at ap
  by_cases h0:te=0
  ·
    have e0:(te != 0)=false:=by simpa using h0
    go_upto_region 5 with fail
    obtain⟨ak,hM⟩:=fD (IW now s.plain id v)
    have HM:=ah hM
    clear hM
    have M:=((Own.nil W).grow V).alloc 196 #[.int .i64 id,.int .i64 tn,.int .i64 0,.int .i64 s.x.id,.slice A n c,.slice none 0 0] w7 rfl
    obtain⟨b9,xW⟩:=fD w7.heap.size
    obtain⟨W5,Xg⟩:=fD (w7.alloc (.cells #[.int .i64 id,.int .i64 tn,.int .i64 0,.int .i64 s.x.id,.slice A n c,.slice none 0 0] 196))
    rw[<-Xg,<-xW]at M |-
    simp only[aZ]at M
    obtain⟨rp,J⟩:=fD (Lh id)
    have ad:=ah J
    clear Xg xW ap bb V h0 J h
    have a9:=hv.below M.below
    go_cut [52] from 39 (λx W'=>x=.bool rp/\W'=W5)
    case first=>
      clear M a9 ar
      have J:=ad.out
      unfold Lh at J
      by_cases q1:id=132
      ·
        have f1:decide (id=132)=true:=by simpa using q1
        have f0:(id==132)=true:=by simpa using q1
        rw[f1]at J
        clear q1
        go_wp2_with fail
        go_meet
        exact⟨by rw[J];rfl,rfl⟩
      have f1:decide (id=132)=false:=by simpa using q1
      have f0:(id==132)=false:=by simpa using q1
      by_cases q2:id=136
      ·
        have f2:decide (id=136)=true:=by simpa using q2
        have f3:(id==136)=true:=by simpa using q2
        rw[f1,f2]at J
        clear q1 q2
        go_wp2_with fail
        go_meet
        exact⟨by rw[J];rfl,rfl⟩
      have f2:decide (id=136)=false:=by simpa using q2
      have f3:(id==136)=false:=by simpa using q2
      by_cases q4:id=147
      ·
        have f4:decide (id=147)=true:=by simpa using q4
        have f5:(id==147)=true:=by simpa using q4
        rw[f1,f2,f4]at J
        clear q1 q2 q4
        go_wp2_with fail
        go_meet
        exact⟨by rw[J];rfl,rfl⟩
      have f4:decide (id=147)=false:=by simpa using q4
      have f5:(id==147)=false:=by simpa using q4
      rw[f1,f2,f4]at J
      simp only[Bool.false_or]at J
      by_cases q6:id=157
      ·
        have f6:decide (id=157)=true:=by simpa using q6
        have f7:(id==157)=true:=by simpa using q6
        rw[f6]at J
        clear q1 q2 q4 q6
        go_wp2_with fail
        go_meet
        exact⟨by rw[J],rfl⟩
      have f6:decide (id=157)=false:=by simpa using q6
      have f7:(id==157)=false:=by simpa using q6
      rw[f6]at J
      clear q1 q2 q4 q6
      go_wp2_with fail
      go_meet
      exact⟨by rw[J],rfl⟩
    case rest=>
      obtain⟨rfl,rfl⟩:=hcut
      go_upto_if 52 with fail
      have bA:=ah M
      obtain⟨re,a6⟩:=fD (rpE s.x)
      have au:=ah a6
      have ac:=Z7 s.x s.m wc
      rw[<-a6]at ac
      clear ar a6
      by_cases ae:rp=true/\re≠0
      ·
        obtain⟨rfl,ai⟩:=ae
        have r0:(re != 0)=true:=by simpa using ai
        have U:R=(s.plain,re):=by
          rw[HR.out,au.out]
          refine aep ?_ ad.out.symm ?_
          ·
            rw[<-al.out];simpa using e0
          ·
            rw[<-au.out];exact ai
        have hC:Own w0 wc [(g,87,s.cells tm now)]:=(O.out.grow M.below).own
        obtain⟨Y,ag⟩:=fD ((MH s.x).length)
        rw[<-ag]at ac
        clear ag ai
        go_wp2_with (first
          |(with_reducible refine qO hC 4 (jf s.x s.m) (oU tm now s) rfl _ _ rfl rfl _ bg rfl (iF _ _) ?_)
          |((with_reducible refine ac.mono ?_);rintro e w8⟨⟨A8,rfl,P9,a1⟩,an⟩;have qx:=(M.grow an).new1 198 #[.int .i64 0,.slice A8 Y Y]))
        go_ret
        rw[U]
        exact iK.same O.out qx.below rfl
      ·
        go_cut [10,11] from 53 (λ_ _ W'=> ∃a,Own W W' [(b9,196,oC ak a)]/\P8 W' ak a)
        case first=>
          cases rp with
          |false=>
            clear ae ac
            go_wp2_with fail
            go_meet
            refine⟨⟨A,c,none,0⟩,?_,?_⟩
            ·
              rw[HM.out,aes ad.out.symm,<-av.out,<-HN.out]
              exact M
            ·
              rw[HM.out]
              exact akG a9 (by rw[<-HN.out];exact hc) ba ad.out.symm
          |true=>
            have ai:re=0:=by
              rcases Int.lt_trichotomy re 0 with q |q |q
              ·
                exact absurd ⟨rfl,by omega⟩ ae
              ·
                exact q
              ·
                exact absurd ⟨rfl,by omega⟩ ae
            have r0:(re != 0)=false:=by simpa using ai
            have hC:Own w0 wc [(g,87,s.cells tm now)]:=(O.out.grow M.below).own
            obtain⟨Y,ag⟩:=fD ((MH s.x).length)
            rw[<-ag]at ac
            have bx:=ah ag
            clear ag ai ae
            go_upto_region 9 with (first
              |(with_reducible refine qO hC 4 (jf s.x s.m) (oU tm now s) rfl _ _ rfl rfl _ bg rfl (iF _ _) ?_)
              |((with_reducible refine ac.mono ?_);rintro e w8⟨⟨A8,rfl,P9,a1⟩,an⟩;have qx:=(M.grow an).new1 198 #[.int .i64 0,.slice A8 Y Y]))
            have bh:=qx.b1.cell
            have cc:=qx.b0.cell
            have cg:=qx.b0.frozen
            have bu:=ah a1
            clear a1
            obtain⟨b10,kQ⟩:=fD w8.heap.size
            obtain⟨W8,aM⟩:=fD (w8.alloc (.cells #[.int .i64 0,.slice A8 Y Y] 198))
            have TN:fE aq7 W8 A8 (MH s.x):=by rw[aM];exact P9.below jm
            rw[<-kQ]at qx bh |-
            rw[<-aM]at qx bh cc cg |-
            clear aM kQ an P9 ac M
            have FP:=qx.new2 198 #[.int .i64 0,.slice A8 Y Y]
            have ct:=FP.b0.cell
            have cu:=FP.b0.frozen
            go_wp2_with fail
            go_meet
            have Xc:=Own.TP (L1:= []) FP 5 (.slice (some ⟨W8,0,none⟩) 1 1)
            simp only[ay,aA,aB,aZ]at Xc
            have bB:Y=(MH s.plain.x).length:=bx.out
            refine⟨⟨A,c,some ⟨W8,0,none⟩,1⟩,?_,?_⟩
            ·
              rw[HM.out,aeu ad.out.symm,<-av.out,<-HN.out]
              exact Xc.one
            ·
              rw[HM.out]
              refine ag4 (A2:=A8) (hv.below Xc.below) (by rw[<-HN.out];exact hc) ba ad.out.symm (by rw[<-bB];exact Xc.b2) ?_
              have h9:b9<wc.heap.size:=bA.out.b0.lt
              exact(TN.below jm).ji (D:=λk=>k=b9) ⟨rfl,rfl,rfl,by simp[dD],λk _ N=>aN _ ⟨b9,5,none⟩ _ k N⟩ (λa e N=>by have:=bu.out a e;omega)
        case rest=>
          obtain⟨a,QL,bd⟩:=hcut
          clear ac a9 M
          have aL : Hid (R = match DY ak with
            | .error e=>(s.plain,e)
            | .ok b=>if wz s.plain.peer b≠0 then(s.plain,wz s.plain.peer b) else(nM (s.plain.setLast tn) (yh s.plain.peer b),0)):=ah (by
              rw[HR.out,av.out,HM.out]
              refine aer ?_ (λhq=>ae ?_)
              ·
                rw[<-al.out];simpa using e0
              ·
                exact⟨by rw[ad.out];exact hq.1,by rw[au.out];exact hq.2⟩)
          have Z:=amj ak a wc ((hT.below O.out.below).below QL.below) bd (by rw[HM.out];exact ba) (by rw[HM.out,XK];split <;> simp)
          clear ae bd
          cases hE:DY ak with
          |error er=>
            rw[hE]at Z
            have U:R=(s.plain,er):=by rw[aL.out,hE]
            have r0:(er != 0)=true:=by simpa using ag2 hE
            unfold ajA at Z
            simp only at Z
            clear hE
            go_wp2_with (first
              |((with_reducible refine gK QL ?_ _ rfl rfl _ underlying196 rfl (by kernel_rfl) ?_);(.first |rfl |(simp[aF,ψ];done)))
              |((with_reducible refine Z.mono ?_);rintro e bo⟨sQ,rfl⟩))
            go_ret
            rw[U]
            exact iK.same O.out (QL.grow sQ).below rfl
          |ok bs=>
            rw[hE]at Z
            have bf:=adn hE
            obtain⟨de,aR⟩:=fD (wz s.plain.peer bs)
            obtain⟨H,aq⟩:=fD (yh s.plain.peer bs)
            have U:Hid (R=if de≠0 then(s.plain,de) else(nM (s.plain.setLast tn) H,0)):=ah (by rw[aL.out,hE,aR,aq])
            have cf:Hid (H.body.length<=2000):=ah (by rw[aq];exact aaI bf)
            have aa:=λ(A:Option δ) (c:Nat) (W:ω) (hB:aq2 W A c bs)=>ad2 s.plain.peer bs A bs.length c W rfl hB (by omega)
            unfold adX at aa
            rw[<-aR,<-aq]at aa
            unfold ajA at Z
            simp only at Z
            clear hE aR aq aL
            go_upto_region 13 with (first
              |((with_reducible refine gK QL ?_ _ rfl rfl _ underlying196 rfl (by kernel_rfl) ?_);(.first |rfl |(simp[aF,ψ];done)))
              |((with_reducible refine Z.mono ?_);rintro e bo⟨sQ,cx,rfl,bm⟩))
            have bE:=bm
            obtain⟨Ab,cb,rfl,ca,hX⟩:=bE
            have ax:=QL.grow sQ
            have bL:Own w0 bo [(g,87,s.cells tm now)]:=(O.out.grow ax.below).own
            unfold jT at aa
            obtain⟨nb,bc⟩:=fD bs.length
            obtain⟨nd,a5⟩:=fD H.body.length
            rw[<-bc]at aa |-
            rw[<-a5]at aa
            have bw:=ah a5
            clear hX bc bf bm Z a5
            go_upto_region 14 with (first
              |(with_reducible refine qO bL 15 (gB s.plain.peer) (pG tm now s) rfl _ _ rfl rfl _ bD rfl (iD _) ?_)
              |(go_at_call 114;(with_reducible refine(aa _ _ _ ca).mono ?_);rintro e bq⟨ZP,az,rfl,bN,IG⟩;have am:=(ax.grow IG).new1 136 #[.int .i64 H.kind,.int .i64 H.dir,.int .i64 H.fG,q32 H.a,q32 H.b,.slice ZP nd az,q64 H.je]))
            by_cases af:de=0
            ·
              have d0:(de != 0)=false:=by simpa using af
              have Dp:Hid (R=(nM (s.plain.setLast tn) H,0)):=ah (by rw[U.out];exact Ξ (λq=>q af))
              have aw:=O.out.grow am.below
              have bO:=aw.own
              have Xt:=bN.below ((aH bq bq).alloc ig (.cells #[.int .i64 H.kind,.int .i64 H.dir,.int .i64 H.fG,q32 H.a,q32 H.b,.slice ZP nd az,q64 H.je] 136))
              have hx:=O.out.beside am.b1 (aG ax.below.size IG.size)
              clear af U aa
              go_wp2_with (first
                |(with_reducible refine jq 36 (.int .i64 tn) bO rfl _ _ _ rfl rfl rfl (by kernel_rfl) (fA (by decide:36<54) (tK tm now s).symm) rfl ?_;intro wR kN rW bj;rw[agN]at kN;obtain⟨cm,vH⟩:=aw.Ea kN rW bj ⟨rfl,rfl,rfl,rfl,rfl,rfl,rfl,rfl,rfl⟩;have cw:=(hx.turn vH).blk.cell;have bX:=Xt.apart aw.blk (QK tm now s) rW bj)
                |(go_at_call 58;have bn:=QE cm H ZP nd az bw.out bX cf.out (aG ci (by decide));unfold jT at bn;(with_reducible refine bn.mono ?_);rintro e wS⟨rfl,hP⟩))
              go_ret
              rw[Dp.out]
              exact⟨rfl,pY.trans ((iw.of_below am.below).trans vH) hP⟩
            ·
              have d0:(de != 0)=true:=by simpa using af
              have Dp:R=(s.plain,de):=by rw[U.out];exact Υ af
              clear af U aa
              go_wp2_with fail
              go_ret
              rw[Dp]
              exact iK.same O.out am.below rfl
  ·
    have e0:(te != 0)=true:=by simpa using h0
    have U:R=(s.plain,te):=by rw[HR.out];exact(aaH (by rw[<-al.out];exact h0)).trans (by rw[al.out])
    clear h0
    go_wp2_with fail
    go_ret
    rw[U]
    exact iK.same O.out V rfl
theorem aix{s:Cs}(U:Tab w0)(h:iJ w0 Bq g tm now s W)(id:Int)(v:List Int)(A:Option δ)(n c:Nat)(hv:fE aq7 W A v)(hn:n=v.length)(hc:n<=c)(aa:v.length<=100)(Z:s.out.length<=90)(Y: -1<=s.x.last):Γ aj 28 #[.pointer g,id,.slice A n c] W (iK w0 Bq g tm now s W (Lj now s.plain id v)):=by
 obtain⟨on,H⟩:=fD s.x.on;have N:(s.cells tm now)[37]? =some (.bool on):=by rw[H];rfl
 have J:=ah H;have V:=h.blk.cell 37;rw[N]at V;clear H;cases on with
 |false=>
  have hF:Lj now s.plain id v=(s.plain,6):=by unfold Lj;exact Υ J.out.symm
  rw[hF];go_enter func28,ntmps28;go_wp2_with fail;go_ret;exact iK.same h gY rfl
 |true=>
  have hF:Lj now s.plain id v=nY now s.plain id v:=by unfold Lj;exact Ξ (λq=>by have:=J.out;rw[show s.plain.x.on=s.x.on from rfl,<-this]at q;cases q)
  rw[hF];have M:=UN U h id v A n c hv hn hc aa Z Y;clear hn;go_enter func28,ntmps28;go_wp2_with((with_reducible refine M.mono ?_);rintro e w2⟨rfl,O⟩);go_ret;exact⟨rfl,O⟩
theorem aiy{s:Cs}(h:iJ w0 Bq g tm now s W)(O:UInt8)(ap:s.out.length<=90):Γ aj 33 #[.pointer g,q8 O] W (iK w0 Bq g tm now s W (QJ s.plain O)):=by
 obtain⟨er,af⟩:=fD (IV s.plain.peer);obtain⟨P,hP⟩:=fD (arV s.plain.peer);obtain⟨Q,hQ⟩:=fD (MQ s.plain.peer O);have hF:Hid (QJ s.plain O=if er≠0 then(s.plain,er) else(nM ((s.plain.ou P).su false) Q,0)):=ah (by rw[af,hP,hQ];rfl);have an:Hid (Q.body.length<=2000):=ah (by
  rw[hQ];unfold MQ;split;·(have:(jA s.plain.peer.key ⟨6,kR s.plain.peer,s.plain.peer.fG,0,s.plain.peer.b,[O],0⟩).body= [O]:=by unfold jA;split <;> rfl);rw[this];simp
  .exact aV _)
 have Y:=agJ s.plain.peer O W;unfold yj at Y;rw[<-af,<-hP,<-hQ]at Y;obtain⟨nq,ag⟩:=fD Q.body.length;rw[<-ag]at Y;have ak:=ah ag;have M:=h.own;obtain⟨R,hR⟩:=fD (QJ s.plain O);rw[<-hR];rw[<-hR]at hF;clear af hP hQ ag hR;go_enter func33,ntmps33;go_upto_region 2 with(first|(with_reducible refine qO M 15 (gB s.plain.peer) (pG _ _ _) ?_ _ _ rfl rfl _ bD rfl (iD _) ?_;(.first|(simp[aF];done)))|((with_reducible refine Y.mono ?_);rintro e w1⟨A1,c1,rfl,ai,ae⟩;have N:=Own.iY w1 34 136 gd gi)|(with_reducible refine oG (gB P) N rfl _ _ rfl rfl rfl (iD P) (by kernel_rfl) (kK P) ?_;intro wR H UO U;replace N:=H;clear H)|(with_reducible refine kY (jT Q A1 nq c1) N rfl _ _ rfl rfl rfl (kS Q A1 nq c1) (by kernel_rfl) (qM Q A1 nq c1) ?_;intro wR H UO U;replace N:=H;clear H))
 have hW:W wR:=ae.trans (N.below.mono ae.size);by_cases V:er=0
 .have e0:(er != 0)=false:=by simpa using V
  have Dp:Hid (R=(nM ((s.plain.ou P).su false) Q,0)):=ah (by rw[hF.out];exact Ξ (λq=>q V));have J:=h.grow hW;have aq:=h.beside N.b0 ae.size;have ad:=h.beside N.b1 (Nat.le_succ_of_le ae.size);have Z:=ai.below N.below;have ac:iw g s s W wR:=iw.of_below hW;clear M;have M:=J.own;have am:=aq.blk;clear V hF Y ai N;go_wp2_with(first|(with_reducible refine gy rfl 34 _ rfl w1 rfl 34 _ _ am bD rfl (iD _) ?_)|(with_reducible refine gy rfl 136 _ rfl (w1.heap.size+1) rfl 136 _ _ al bF rfl (kS _ _ _ _) ?_)|(with_reducible refine ni 15 (gB (P)) M rfl _ _ _ rfl rfl rfl (iD _) (Cb _ _ _ _) (kK _) ?_;intro wR H rW U;rw[Jg]at H;obtain⟨aa,vH⟩:=J.Ea H rW U ⟨rfl,rfl,rfl,rfl,rfl,rfl,rfl,rfl,rfl⟩;replace ad:=ad.turn vH;replace Z:=Z.apart J.blk (QK _ _ _) rW U;replace ac:=iw.trans ac vH;clear M;replace J:=aa;clear aa;have M:=J.own)|(with_reducible refine jq 37 false M rfl _ _ _ rfl rfl rfl (by kernel_rfl) (fA (by decide:37<54) (tK _ _ _).symm) rfl ?_;intro wR H rW U;rw[UC]at H;obtain⟨aa,vH⟩:=J.Ea H rW U ⟨rfl,rfl,rfl,rfl,rfl,rfl,rfl,rfl,rfl⟩;replace ad:=ad.turn vH;have al:=ad.blk;replace Z:=Z.apart J.blk (QK _ _ _) rW U;replace ac:=iw.trans ac vH;clear M;replace J:=aa;clear aa;have M:=J.own)|((with_reducible refine(QE J Q A1 nq c1 ak.out Z an.out (aG ap (by decide))).mono ?_);rintro e fU⟨rfl,hP⟩));go_ret;rw[Dp.out];exact⟨rfl,pY.trans ac hP⟩
 .have e0:(er != 0)=true:=by simpa using V
  have Dp:R=(s.plain,er):=by rw[hF.out];exact Υ V
  clear V hF Y;go_wp2_with fail;go_ret;rw[Dp];exact iK.same h hW rfl
section
section
variable {P:χ} {ops:Array ο} {w0:ω} {Q:Exit->Act->ω->Prop}
def gX.part{o:ο}{rest:List ο}{a a':Act}{g:Nat}{t:τ}{cs:Array Θ}(J: ∀w,w0 w->fK w g t cs)(i:Nat)(vs:Array Θ)(Y:(cs.toList.drop i).take vs.size=vs.toList)(Z:aF o (ψ ops a.tmps)=true)(ty:τ)(x:κ)(U:o.op=.load ty x)(hx:a.eval x=.pointer (some ⟨g,i,none⟩))(d:TypeDesc)(V:P.underlying ty=some d)(N:(match d with | .struct _ | .array _ _=>true |_=>false)=true)(hi:(P.info? ty).map (·.size)=some vs.size)(M:a.put o.dst vs=a')(r:gX P ops w0 Q rest a'):gX P ops w0 Q (o::rest) a:=by refine gX.want Z (λw O K Q' H=>?_) M r;unfold Oper.wp execOp;simp only[U,hx,Instr.loadAt,Instr.sureAddr,Sem.run_bind,Sem.run_pure,dO,wB w g i t ty cs vs d (J w O) Y V N hi];exact H _ gY
def gX.whole{o:ο}{rest:List ο}{a a':Act}{g:Nat}{t:τ}{cs:Array Θ}(H: ∀w,w0 w->fK w g t cs)(U:aF o (ψ ops a.tmps)=true)(ty:τ)(x:κ)(N:o.op=.load ty x)(V:a.eval x=.pointer g)(d:TypeDesc)(O:P.underlying ty=some d)(M:(match d with | .struct _ | .array _ _=>true |_=>false)=true)(hi:(P.info? ty).map (·.size)=some cs.size)(J:a.put o.dst cs=a')(r:gX P ops w0 Q rest a'):gX P ops w0 Q (o::rest) a:=gX.part H 0 cs (by rw[List.drop_zero];exact aY (by simp)) U ty x N V d O M hi J r
end
end
def Bz (m:kZ):kZ:={m with v:=⟨none,0,0,none,0,0⟩}
def asf(x:Tr)(m:kZ):((arh (jf x m) 40 [zI,false,nS,nS,zI]).setIfInBounds 45 zI).setIfInBounds 46 false=jf (pJ x) (Bz m):=by kernel_rfl
def akJ(x:Tr)(m:kZ):40+(gj:Array Θ).size<=(jf x m).size:=by rw[lg];exact(by decide:40+5<=48)
def ag6(x:Tr)(m:kZ)(l:List Θ):45<(arh (jf x m) 40 l).size:=by rw[lQ,lg];decide
def ag7(x:Tr)(m:kZ)(l:List Θ)(v:Θ):46<((arh (jf x m) 40 l).setIfInBounds 45 v).size:=by rw[Array.size_setIfInBounds,lQ,lg];decide
def akK:(gj:Array Θ).all (·.oneCell')=true:=by simp[aK]
def Hl(x:Tr)(m:kZ)(w:ω):Γ aj 70 #[.agg (jf x m)] w λe w'=>e=.returned (.agg (jf (pJ x) (Bz m)))/\w w':=by have J:Own w _ [_,_]:=Own.iY w 44 44 (jf x m) gL;go_enter func70,ntmps70;go_wp2_with(first|(with_reducible refine ni 40 gj J rfl _ _ _ rfl rfl rfl (by kernel_rfl) (akJ _ _) akK ?_;intro U H N M;replace J:=H;clear H N M)|(with_reducible refine jq 45 (.int .i64 0) J rfl _ _ _ rfl rfl rfl (by kernel_rfl) (ag6 _ _ _) rfl ?_;intro V H N M;replace J:=H;clear H N M)|(with_reducible refine jq 46 (.bool false) J rfl _ _ _ rfl rfl rfl (by kernel_rfl) (ag7 _ _ _ _) rfl ?_;intro Y H N M;rw[asf]at H;replace J:=H;clear H N M)|((with_reducible refine gK J ?_ _ rfl rfl _ bg rfl (iF _ _) ?_);(.first|rfl))|(with_reducible refine kY (jf (pJ x) (Bz m)) J rfl _ _ rfl rfl rfl (iF _ _) (by kernel_rfl) (lM _ _) ?_;intro Z H O M;replace J:=H;clear H));exact β (nC results70 _ _ _ _ _ rfl J.b1 bg rfl (iF _ _)) rfl ⟨rfl,J.below⟩
theorem iJ.drop{s:Cs}(h:iJ w0 Bq g tm now s W)(H:Own w0 W' [(g,87,(s.rQ (pJ s.x) (Bz s.m)).cells tm now)])(N:W'.heap.size=W.heap.size)(M: ∀k,k≠g->W'.heap[k]? =W.heap[k]?):iJ w0 Bq g tm now (s.rQ (pJ s.x) (Bz s.m)) W'/\iw g s (s.rQ (pJ s.x) (Bz s.m)) W W':=by have O:iw g s (s.rQ (pJ s.x) (Bz s.m)) W W':=iw.put (H.below.os.trans h.below.os.symm) (H.below.tape.trans h.below.tape.symm) (H.below.output.trans h.below.output.symm) N M rfl rfl;have J:=h.tr;exact⟨h.put H O N M ⟨aq1.nil _ _,aq1.nil _ _,J.stops,rfl,rfl,J.e3,aV _,aV _,J.l3⟩ rfl rfl rfl (λe=>by cases e) (λe=>by cases e) (ard J.stops h.blk (by decide)),O⟩
def Y3{s:Cs}(h: ¬(s.x.held=true/\jB s.x.ma.fP (wrap64 (now-s.x.at_)) 0=0)):OA now s.plain=s.plain:=Ξ h
def aew{s:Cs}(h:s.x.held=true/\jB s.x.ma.fP (wrap64 (now-s.x.at_)) 0=0):OA now s.plain=s.plain.rQ (pJ s.x):=Υ h
theorem akL{s:Cs}(h:iJ w0 Bq g tm now s W)(y0 y1:Int)(A:Option δ)(n c:Nat):Γ aj 34 #[.pointer (some ⟨g,0,none⟩),.agg #[.int .i64 y0,.int .i64 y1,.slice A n c]] W (iK w0 Bq g tm now s W (OA now s.plain,0)):=by
 obtain⟨held,ad⟩:=fD s.x.held;have al:(s.cells tm now)[50]? =some (.bool held):=by rw[ad];rfl
 have ar:(s.cells tm now)[52]? =some (.int .i64 now):=rfl;have aq:(s.cells tm now)[49]? =some (.int .i64 s.x.at_):=rfl;obtain⟨rc,ag⟩:=fD (jB s.x.ma.fP (wrap64 (now-s.x.at_)) 0);have ai:=ah ad;have ak:=ah ag;have hO:Own W _ [_]:=Own.jD W 48 #[.int .i64 y0,.int .i64 y1,.slice A n c];obtain⟨Z,M⟩:=fD (W.alloc (.cells #[.int .i64 y0,.int .i64 y1,.slice A n c] 48));have h1:iJ w0 Bq g tm now s Z:=by rw[M];exact h.grow hO.below
 have aa:W Z:=by rw[M];exact hO.below
 have ap:=λX (hX:Z X)=>I5 s.x.ma s.m.v (wrap64 (now-s.x.at_)) X (h1.tr.is.ma.below hX);rw[<-ag]at ap;have ac:=h1.blk;have an:=ac.lt;have H1:=ah h1;clear ad ag hO h1;cases held with
 |false=>
  go_enter func34,ntmps34;go_upto_region 1 with fail;rw[<-M];clear M;apply jJ [];case lX=>intro u;simp only[bV,aq9,aP,ay,aA,aB,aT,aJ];rfl
  case hm=>kernel_rfl
  case hB=>kernel_rfl
  case hap=>kernel_rfl
  repeat(first|(apply jI.is;·(intro u w' H J;simp[fH,aC,Is]at J;refine fC ?_ ?_;(·(first|rfl));intro K hK;have H:=H.below ig (by intro k o h;simp at h);have U:=(ac.below H an);have af:=U.cell 50;rw[al]at af;go_wp2_with(fail);(try simp only[J]at hK);refine hK _ _ ?_ rfl;first|exact Stp.refl _ _))|(refine jI.is (c:=υ) ?_ ?_;·(intro u w' H J;simp[fH,aC,Is]at J;refine PL ?_ rfl;first|(simp[aF,ψ,J];done))))
  refine jI.nil ?_ ?_;.simp[W2.fit,qy]
  intro u w7 H J;simp only[gQ]at J;replace H:=H.below ig (by intro k o h;simp at h);have ae:=J 23 _ rfl;simp only[Is]at ae;clear J;simp only[ae];clear ae;go_wp2_with fail;go_ret;rw[Y3 (λq=>Bool.false_ne_true (ai.out.trans q.1))];exact iK.same h (aa.trans (H.mono aa.size)) rfl
 |true=>
  go_enter func34,ntmps34;go_upto_region 1 with fail;rw[<-M];clear M;refine ara (by kernel_rfl) ?_;repeat(first|(refine gX.part (a':=?_) (λ_ H=>(H1.out.grow H).blk) 44 (nO s.x.ma s.m.v) (zl _ _ _) rfl _ _ rfl rfl _ dA rfl (by kernel_rfl) ?_ ?_;rotate_left 1;·(simp only[aP,ay,aA,aB];rfl))|(apply gX.want rfl;(.intro w' H K Q' hK;have U:=(ac.below H an);have af:=U.cell 50;rw[al]at af;have aw:=U.cell 52;rw[ar]at aw;have av:=U.cell 49;rw[aq]at av;go_wp2_with(((with_reducible refine(ap _ H).mono ?_);rintro e w3⟨rfl,au⟩));first|exact aH _ _|exact au);(.simp only[aP,ay,aA,aB];rfl)))
  refine gX.nil ?_;intro w7 H;have Y:W w7:=aa.trans (H.mono aa.size);have V:=h.grow Y;have O:=V.own;by_cases N:rc=0;·(have e0:(rc==0)=true:=by simpa using N);have hT:Hid (OA now s.plain=s.plain.rQ (pJ s.x)):=ah (aew ⟨ai.out.symm,by rw[<-ak.out];exact N⟩);clear N ac;go_wp2_with(first|(with_reducible refine qO O 4 (jf s.x s.m) (oU _ _ _) ?_ _ _ rfl rfl _ bg rfl (iF _ _) ?_;(.first|(simp[aF,ψ];done)))|((with_reducible refine(Hl s.x s.m _).mono ?_);rintro e w8⟨rfl,am⟩;replace V:=V.grow am;clear O;have O:=V.own)|(with_reducible refine ni 4 (jf (pJ s.x) (Bz s.m)) O rfl _ _ _ rfl rfl rfl (iF _ _) (QD _ _ _ _ _) (lM _ _) ?_;intro wR kN rW ax;rw[ad9]at kN;obtain⟨az,vH⟩:=V.drop kN rW ax));go_ret;rw[hT.out];exact⟨rfl,_,az,(iw.of_below (Y.trans (am.mono Y.size))).trans vH,rfl⟩
  ·(have e0:(rc==0)=false:=by simpa using N);have hT:Hid (OA now s.plain=s.plain):=ah (Y3 (λq=>N (by rw[ak.out];exact q.2)));clear N O;go_wp2_with fail;go_ret;rw[hT.out];exact iK.same h Y rfl
set_option maxRecDepth 8000
def arM (p:gG) (n:BitVec 32):gG:=⟨p.side,p.fG,p.base,1,n,0,adV,p.half,p.a2,p.b2⟩
def aaT(p:gG)(n:BitVec 32):arh ((((gB p).setIfInBounds 6 (1:Int)).setIfInBounds 7 (q32 n)).setIfInBounds 8 (.int .u32 0)) 9 [.int .u32 0,.int .u32 0,.int .u32 0,.int .u32 0]=gB (arM p n):=by kernel_rfl
theorem aaU(p:gG)(n:BitVec 32)(w:ω)(hs:p.side=0)(hu:lS p=true):Γ aj 57 #[.agg (gB p),q32 n] w (yj w (arM p n) ⟨1,0,p.fG,n,0,[],0⟩ 0):=by
 have ht:=λW=>yc p W;have hn:=λW=>Qx p W;obtain⟨al,ap⟩:=zk p hs;rw[hu]at hn;rw[al]at ht;have J:Own w _ [_,_,_]:=Own.start3 w 34 34 136 (gB p) gd gi;go_enter func57,ntmps57;go_wp2_with(first|((with_reducible refine gK J ?_ _ rfl rfl _ bD rfl (iD p) ?_);(.first|rfl))|((with_reducible first|refine(ht _).mono ?_|refine(hn _).mono ?_);rintro fU fJ⟨rfl,iG⟩;replace J:=J.grow iG)|(with_reducible refine jq 6 (.int .i64 1) J rfl _ _ _ rfl rfl rfl (by kernel_rfl) (by simp[gB]) rfl ?_;intro aq O aa ak;replace J:=O;clear O aa ak)|(with_reducible refine jq 7 (q32 n) J rfl _ _ _ rfl rfl rfl (by kernel_rfl) (by simp[gB]) rfl ?_;intro ar U am ac;replace J:=U;clear U am ac)|(with_reducible refine jq 8 (.int .u32 0) J rfl _ _ _ rfl rfl rfl (by kernel_rfl) (by simp[gB]) rfl ?_;intro au V af ag;replace J:=V;clear V af ag)|(with_reducible refine ni 9 (#[.int .u32 0,.int .u32 0,.int .u32 0,.int .u32 0]) J rfl _ _ _ rfl rfl rfl (by kernel_rfl) (by simp[gB]) (by simp[aK,q32]) ?_;intro av Y ad ae;replace J:=Y;clear Y ad ae));rw[aaT]at J;apply jJ [(w.heap.size+1,none),(w.heap.size+1+1,none)];case lX=>intro u;simp only[bV,aq9,aP,ay,aA,aB,aT,aJ];rfl
 case hm=>kernel_rfl
 case hB=>kernel_rfl
 case hap=>kernel_rfl
 refine jI.is (c:=.agg (gB (arM p n))) ?_ ?_;·(intro u w' N H;have ai:=N.blk J.b0 (by intro o h;simp at h;try omega);refine fC (by first |rfl) ?_;intro K M;exact ι 34 _ rfl _ rfl 34 _ (0,0) _ ai bD rfl (by kernel_rfl) (M _ _ (Stp.refl _ _) rfl))
 iterate 4(first|(apply jI.is;·(intro u w' N H;simp[fH,aC,Is]at H;refine fC (by first |rfl) ?_;intro K M;have an:=((N.blk J.b0 (by intro o h;simp at h;try omega)).cell 1).trans (XC (arM p n));go_wp2_with(fail);(try simp only[H]at M);refine M _ _ ?_ rfl;first|exact Stp.refl _ _))|(apply jI.is;·(intro u w' N H;simp[fH,aC,Is]at H;refine fC (by first |rfl) ?_;intro K M;skip;go_wp2_with(fail);(try simp only[H]at M);refine M _ _ ?_ rfl;first|exact Stp.refl _ _)))
 refine jI.row (w.heap.size+1) 34 _ (gB (arM p n)) (by simp) J.b1 (by rfl) 34 _ _ rfl (by kernel_rfl) (kK (arM p n)) ?_ ?_;·(intro u w' N H;simp[fH,aC,Is]at H;exact⟨by first |rfl |simp[aF,ψ,H],rfl,by simp[Act.eval,H]⟩)
 refine jI.row (w.heap.size+1+1) 136 _ (#[.int .i64 1,.int .i64 0,.int .i64 (arM p n).fG,q32 n,.int .u32 0,.slice none 0 0,.int .u64 0]) (by simp) J.b2 (by rfl) 136 _ _ rfl (by kernel_rfl) (by simp[aK,q32,q64]) ?_ ?_;·(intro u w' N H;simp[fH,aC,Is]at H;exact⟨by first |rfl |simp[aF,ψ,H],rfl,by simp[Act.eval,H]⟩)
 apply jI.is;·(intro u w' N H;simp[fH,aC,Is]at H;refine fC (by first |rfl |simp[aF,ψ,H]) ?_;intro K M;skip;go_wp2_with(fail);(try simp only[H]at M);refine M _ _ ?_ rfl;first|exact Stp.refl _ _|exact Stp.of_below hb3 _)
 refine jI.nil (by simp[W2.fit,qy]) ?_;intro u w7 N H;simp only[gQ]at H;have h5:fK w7 (w.heap.size+1) 34 (gB (arM p n)):=H 5 _ rfl;have h6:fK w7 (w.heap.size+1+1) 136 #[.int .i64 1,.int .i64 0,.int .i64 (arM p n).fG,q32 n,.int .u32 0,.slice none 0 0,.int .u64 0]:=H 6 _ rfl;have Z:=H 7 _ rfl;simp only[Is]at Z;go_wp2_with fail;exact β (lY results57 _ _ _ _ _ _ _ _ _ rfl rfl Z h5 h6 bD rfl (iD _) bF rfl (by kernel_rfl)) rfl ⟨none,0,rfl,aq2.nil _,J.below.trans (N.below J.below.size (by intro k o h;simp at h;omega))⟩
theorem aeF(p:gG)(n:BitVec 32)(w:ω)(h: ¬(p.side=0/\lS p=true)):Γ aj 57 #[gB p,q32 n] w (yj w gG.none_ P7.none_ 1):=by
 have N:=λW=>yc p W;have hn:=λW=>Qx p W;by_cases Z:p.side=0
 .obtain⟨aa,ac⟩:=zk p Z;have hu:lS p=false:=by cases hq:lS p;rfl;.exact absurd ⟨Z,hq⟩ h
  rw[hu]at hn;rw[aa]at N;have H:Own w _ [_,_,_]:=Own.start3 w 34 34 136 (gB p) gd gi;go_enter func57,ntmps57;go_wp2_with(first|((with_reducible refine gK H ?_ _ rfl rfl _ bD rfl (iD p) ?_);(.first|rfl))|((with_reducible first|refine(N _).mono ?_|refine(hn _).mono ?_);rintro fU fJ⟨rfl,iG⟩;replace H:=H.grow iG)|(with_reducible refine kY gd H rfl _ _ rfl rfl rfl (by kernel_rfl) (by kernel_rfl) (by simp[aK,q64]) ?_;intro ad M O U;replace H:=M;clear M O U)|(with_reducible refine jv gi H rfl _ _ rfl rfl rfl (by kernel_rfl) (by kernel_rfl) (by simp[aK,q64]) ?_;intro ae J V Y;replace H:=J;clear J V Y));exact β (lY results57 _ _ _ _ _ _ _ _ _ rfl rfl rfl H.b1 H.b2 bD rfl (by kernel_rfl) bF rfl (by kernel_rfl)) rfl (yt _ _ _ H.below)
 focus(obtain⟨aa,ac⟩:=Y0 p Z;generalize lS p=nb at*;rw[aa]at N;rcases nb with _ |_;skip;rotate_left;skip)
 all_goals(have H:Own w _ [_,_,_]:=Own.start3 w 34 34 136 (gB p) gd gi;go_enter func57,ntmps57;go_wp2_with(first|((with_reducible refine gK H ?_ _ rfl rfl _ bD rfl (iD p) ?_);(.first|rfl))|((with_reducible refine(N _).mono ?_);rintro fU fJ⟨rfl,iG⟩;replace H:=H.grow iG)|(with_reducible refine kY gd H rfl _ _ rfl rfl rfl (by kernel_rfl) (by kernel_rfl) (by simp[aK,q64]) ?_;intro ad M O U;replace H:=M;clear M O U)|(with_reducible refine jv gi H rfl _ _ rfl rfl rfl (by kernel_rfl) (by kernel_rfl) (by simp[aK,q64]) ?_;intro ae J V Y;replace H:=J;clear J V Y));exact β (lY results57 _ _ _ _ _ _ _ _ _ rfl rfl rfl H.b1 H.b2 bD rfl (by kernel_rfl) bF rfl (by kernel_rfl)) rfl (yt _ _ _ H.below))
theorem aha(p:gG)(n:BitVec 32)(w:ω):Γ aj 57 #[gB p,q32 n] w (yj w (adW p n) (aav p n) (MP p)):=by
 by_cases h:p.side=0/\lS p=true
 .have e:MP p=0:=by unfold MP;rw[Υ h]
  unfold adW aav;rw[e,Υ rfl,Υ rfl];exact aaU p n w h.1 h.2
 .have e:MP p=1:=by unfold MP;rw[Ξ h]
  unfold adW aav;rw[e,Ξ (by decide),Ξ (by decide)];exact aeF p n w h
@[go_sem] theorem aiz (t:τ) (a:BitVec 32):γ .add t (q32 a) (.int .u32 1)=pure (q32 (a+1)):=by
 have e:(Value.int .u32 1)=q32 1:=by simp[q32]
 rw[e];exact afk t a 1
def OD(h:aq2 w A c [])(w':ω):aq2 w' A c []:=⟨λH=>absurd H (by decide),h.cap,h.max⟩
def ahb (P:gG) (Q:P7) (nq:Nat) (er:Int):Θ->ω->Prop:=JA fun v=> ∃A c,v=.tuple #[.agg (gB P),.agg (jT Q A nq c),.int .i64 er]/\ ∀w,aq2 w A c []
def anj (_:gG) (Q:P7) (nq:Nat) (_:Int):Θ->ω->Prop:=JA fun v=> ∃A c,v=.agg (jT Q A nq c)/\ ∀w,aq2 w A c []
def aeG (B j:Nat) (Q:P7) (nq:Nat):(Nat->Θ)->ω->Prop:=fun u w=> ∃g A c,u j=.pointer (some ⟨g,0,none⟩)/\B<=g/\fK w g 136 (jT Q A nq c)/\ ∀w,aq2 w A c []
def yw(P:gG):(gB P).size=16:=rfl
def QM(Q:P7)(A:Option δ)(n c:Nat):(jT Q A n c).size=7:=rfl
def arq(w:ω)(g:Nat)(cs:Array Θ):(w.setRow g cs).heap.size=w.heap.size:=by simp[World.setRow]
def zo{J M:τ}(N:Θ->Prop):mF ops (sD B s1 J s2 M) j (gI j (JA N)):=λ_ H _ _ _ _ _ h _=>jy H h λ_ h=>h
theorem xw{nq:Nat}{Q:P7}(N:Dx ops b s2=true):mF ops (sD B s1 34 s2 136) s2 (aeG B b Q nq):=by
 intro i V O u v w w' h M;obtain⟨g,A,c,e,U,H,Z⟩:=h;have Y:i≠b:=λe=>ug N (e▸O);refine⟨g,A,c,by rw[jH u v (λe=>Y e.symm)];exact e,U,?_,Z⟩;by_cases J:i=s1;.exact H.turned (M.2.2.1 J) (by decide)
 .exact H.below (M.2.1 J V) H.lt
def apC{s:Cs}{P:gG}:(((s.ou P).su false).cells tm now)[31]? =some (q32 s.m.nx):=rfl
theorem ahc{s:Cs}(h:iJ w0 Bq g tm now s W)(y0 y1:Int)(A:Option δ)(n c:Nat)(aM:s.out.length<=90):Γ aj 24 #[.pointer (some ⟨g,0,none⟩),.agg #[y0,y1,.slice A n c]] W (iK w0 Bq g tm now s W (QI s.plain)):=by
 obtain⟨er,an⟩:=fD (MP s.plain.peer);obtain⟨P,hP⟩:=fD (adW s.plain.peer s.m.nx);obtain⟨Q,hQ⟩:=fD (aav s.plain.peer s.m.nx);have hF:Hid (QI s.plain=if er≠0 then(s.plain,er) else(nM (((s.plain.ou P).su false).Uz (s.m.nx+1)) Q,0)):=ah (by rw[an,hP,hQ];rfl);have al:Hid (Q.body= []):=ah (by rw[hQ];unfold aav;split <;> rfl);have aa:=λW=>aha s.plain.peer s.m.nx W;unfold yj at aa;rw[<-an,<-hP,<-hQ]at aa;rw[al.out]at aa;obtain⟨nq,ap⟩:=fD (([]:List UInt8).length);rw[<-ap]at aa;have ar:=ah ap;have hO:Own W _ [_]:=Own.jD W 48 #[y0,y1,.slice A n c];obtain⟨V,ai⟩:=fD (W.alloc (.cells #[y0,y1,.slice A n c] 48));have h1:iJ w0 Bq g tm now s V:=by rw[ai];exact h.grow hO.below
 have ak:W V:=by rw[ai];exact hO.below
 have H1:=ah h1;have aw:(s.cells tm now)[31]? =some (q32 s.m.nx):=rfl;obtain⟨R,hR⟩:=fD (QI s.plain);rw[<-hR];rw[<-hR]at hF;clear an hP hQ ap hR hO h1;go_enter func24,ntmps24;go_upto_region 1 with fail;rw[<-ai];clear ai;apply gu (Below V) (λW=>aq3 gY 1) (λ_ _ _ h1 h2=>h1.trans h2) (sD V 17 34 18 136) (λ_ _ _ h=>h.1) (λ_ _=>fZ _ _ _ _ _ _ _) (λ_ _=>True) (λ_=>trivial) (λ_ _ _ _ _ _ _=>trivial);case lX=>intro u;simp only[bV,aq9,aP,ay,aA,aB,aT,aJ];with_reducible rfl
 case hm=>kernel_rfl
 case hB=>kernel_rfl
 case hA=>kernel_rfl
 case hap=>kernel_rfl
 iterate 4(first|(apply fM.is;·(intro u w' M N H;simp[fO,aC,gI,Is]at H;refine fC ?_ ?_;(.first|rfl);intro K J;skip;go_wp2_with(fail);(try simp only[H]at J);refine J _ _ ?_ rfl;first|exact fZ _ _ _ _ _ _ _))|(apply fM.is;·(intro u w' M N H;simp[fO,aC,gI,Is]at H;refine fC ?_ ?_;(.first|rfl);intro K J;skip;go_wp2_with(fail);refine J _ _ ?_ rfl;first|exact fZ _ _ _ _ _ _ _)))
 refine fM.is (c:=.agg (gB s.plain.peer)) ?_ ?_;·(intro u w' M N H;simp[fO,aC,gI,Is]at H;refine fC (by first |rfl) ?_;intro K J;have O:=(H1.out.grow M).own;exact wC O 15 _ (pG _ _ _) _ _ rfl (by rw[<-H];rfl) _ bD rfl (iD _) (J _ _ (fZ _ _ _ _ _ _ _) rfl))
 iterate 4(first|(apply fM.is;·(intro u w' M N H;simp[fO,aC,gI,Is]at H;refine fC ?_ ?_;(.first|rfl);intro K J;skip;go_wp2_with(fail);(try simp only[H]at J);refine J _ _ ?_ rfl;first|exact fZ _ _ _ _ _ _ _))|(apply fM.is;·(intro u w' M N H;simp[fO,aC,gI,Is]at H;refine fC ?_ ?_;(.first|rfl);intro K J;skip;go_wp2_with(fail);refine J _ _ ?_ rfl;first|exact fZ _ _ _ _ _ _ _)))
 apply fM.is;·(intro u w' M N H;simp[fO,aC,gI,Is]at H;refine fC ?_ ?_;(.first|rfl);intro K J;have aE:=(H1.out.grow M).blk.cell 31;rw[aw]at aE;go_wp2_with(fail);(try simp only[H]at J);refine J _ _ ?_ rfl;first|exact fZ _ _ _ _ _ _ _)
 refine fM.one (ahb P Q nq er) ?_ ?_;·(intro u w' M N H;simp only[gQ]at H;have q1:=H ⟨4,.data⟩ (by simp) rfl _ rfl;have q2:=H ⟨9,.data⟩ (by simp) rfl _ rfl;simp only[gI,Is]at q1 q2;clear H;refine fC (by first |rfl) ?_;intro K J;skip;go_wp2_with(((with_reducible refine(aa _).mono ?_);rintro e w3⟨A1,c1,rfl,ax,aD⟩));(try simp only[q1,q2]at J);exact J _ _ (iL M.size aD (by decide) (by decide)) ⟨A1,c1,rfl,OD ax⟩)
 refine fM.one (ahb P Q nq er) ?_ ?_;·(intro u w' M N H;simp only[gQ]at H;have q1:=H ⟨10,.data⟩ (by simp) rfl _ rfl;obtain⟨A1,c1,q1,hz⟩: ∃A1 c1,u 10=.tuple #[.agg (gB P),.agg (jT Q A1 nq c1),er]/\ ∀w,aq2 w A1 c1 []:=q1;clear H;refine fC (by first |rfl) ?_;intro K J;go_wp2_with fail;(try simp only[q1]at J);exact J _ _ (fZ _ _ _ _ _ _ _) ⟨A1,c1,rfl,hz⟩)
 refine fM.is (c:=.agg (gB P)) ?_ ?_;·(intro u w' M N H;simp only[gQ]at H;have q1:=H ⟨11,.data⟩ (by simp) rfl _ rfl;obtain⟨A1,c1,q1,hz⟩: ∃A1 c1,u 11=.tuple #[.agg (gB P),.agg (jT Q A1 nq c1),er]/\ ∀w,aq2 w A1 c1 []:=q1;clear H;refine fC (by first |rfl) ?_;intro K J;go_wp2_with fail;(try simp only[q1]at J);exact J _ _ (fZ _ _ _ _ _ _ _) rfl)
 refine fM.one (anj P Q nq er) ?_ ?_;·(intro u w' M N H;simp only[gQ]at H;have q1:=H ⟨11,.data⟩ (by simp) rfl _ rfl;obtain⟨A1,c1,q1,hz⟩: ∃A1 c1,u 11=.tuple #[.agg (gB P),.agg (jT Q A1 nq c1),er]/\ ∀w,aq2 w A1 c1 []:=q1;clear H;refine fC (by first |rfl) ?_;intro K J;go_wp2_with fail;(try simp only[q1]at J);exact J _ _ (fZ _ _ _ _ _ _ _) ⟨A1,c1,rfl,hz⟩)
 refine fM.is (c:=er) ?_ ?_;·(intro u w' M N H;simp only[gQ]at H;have q1:=H ⟨11,.data⟩ (by simp) rfl _ rfl;obtain⟨A1,c1,q1,hz⟩: ∃A1 c1,u 11=.tuple #[.agg (gB P),.agg (jT Q A1 nq c1),er]/\ ∀w,aq2 w A1 c1 []:=q1;clear H;refine fC (by first |rfl) ?_;intro K J;go_wp2_with fail;(try simp only[q1]at J);exact J _ _ (fZ _ _ _ _ _ _ _) rfl)
 refine fM.one (pV V 34 16) ?_ ?_;·(intro u w' M N H;clear H;refine fC (by first |rfl) ?_;intro K J;go_wp2_with fail;exact J _ _ (iL M.size jm (by decide) (by decide)) ⟨w',_,rfl,M.size,fK.new _ _ _,rfl⟩)
 refine fM.one (pV V 136 7) ?_ ?_;·(intro u w' M N H;clear H;refine fC (by first |rfl) ?_;intro K J;go_wp2_with fail;exact J _ _ (iL M.size jm (by decide) (by decide)) ⟨w',_,rfl,M.size,fK.new _ _ _,rfl⟩)
 refine fM.word (CU V 15 34 (gB P)) ?_ ?_;·(intro u w' M N H;simp only[gQ]at H;have q1:=H ⟨15,.data⟩ (by simp) rfl _ rfl;have q2:=H ⟨12,.data⟩ (by simp) rfl _ rfl;simp only[gI,Is]at q2;obtain⟨g5,cs,af,hg,Y,ag⟩:pV V 34 16 (u 15) w':=q1;clear H;refine jF (by first |rfl) ?_;intro K J;have jL: ∀k,k≠g5->(w'.setRow g5 (gB P)).heap[k]? =w'.heap[k]? :=λk M=>ζ w' g5 k _ M;exact η 34 _ _ rfl g5 (gB P) (by rw[<-af];rfl) (by rw[<-q2];rfl) 34 cs Y (iD P) (ag.trans (yw P).symm) (kK P) (J υ _ ⟨jk gY hg _,λh _=>absurd rfl h,λ_=> .inr ⟨g5,cs,gB P,Y,Y.row _,(yw P).trans ag.symm,arq _ _ _,jL⟩,λe=>absurd e (by decide)⟩ ⟨g5,by rw[jH u υ (by decide)];exact af,hg,Y.row _⟩))
 refine fM.word (aeG V 16 Q nq) ?_ ?_;·(intro u w' M N H;simp only[gQ]at H;have q1:=H ⟨16,.data⟩ (by simp) rfl _ rfl;have q2:=H ⟨13,.data⟩ (by simp) rfl _ rfl;obtain⟨A1,c1,q2,hz⟩: ∃A1 c1,u 13=.agg (jT Q A1 nq c1)/\ ∀w,aq2 w A1 c1 []:=q2;obtain⟨g6,cs,af,hg,Y,ag⟩:pV V 136 7 (u 16) w':=q1;clear H;refine jF (by first |rfl) ?_;intro K J;have jL: ∀k,k≠g6->(w'.setRow g6 (jT Q A1 nq c1)).heap[k]? =w'.heap[k]? :=λk M=>ζ w' g6 k _ M;exact η 136 _ _ rfl g6 (jT Q A1 nq c1) (by rw[<-af];rfl) (by rw[<-q2];rfl) 136 cs Y (kS _ _ _ _) (ag.trans (QM _ _ _ _).symm) (qM _ _ _ _) (J υ _ ⟨jk gY hg _,λ_ h=>absurd rfl h,λe=>absurd e (by decide),λ_=> .inr ⟨g6,cs,jT Q A1 nq c1,Y,Y.row _,(QM _ _ _ _).trans ag.symm,arq _ _ _,jL⟩⟩ ⟨g6,A1,c1,by rw[jH u υ (by decide)];exact af,hg,Y.row _,hz⟩))
 refine fM.last (qm ?_) ?_
 .simp only[gQ];repeat(refine⟨?_,?_⟩;.first|exact mQ _|exact zo _|exact qP|exact xu (by kernel_rfl) (by decide)|exact xw (by kernel_rfl))
  exact trivial
 intro u w1 M _ H;simp only[gQ]at H;obtain⟨g5,e5,aL,xQ⟩:=H 17 _ rfl;obtain⟨g6,A1,c1,e6,Gz,Xz,hz⟩:=H 18 _ rfl;have am:=H 14 _ rfl;simp only[gI,Is]at am;clear H;refine⟨by first |rfl |simp[aF,ψ],?_⟩;intro K J;simp only[e5,e6,am];clear e5 e6 am;have hW:W w1:=ak.trans (M.mono ak.size);have U:=h.grow hW;have aR:=h.beside xQ (aG ak.size aL);have ad:=h.beside Xz (aG ak.size Gz);by_cases h0:er=0
 .have e0:(er != 0)=false:=by simpa using h0
  have Dp:Hid (R=(nM (((s.plain.ou P).su false).Uz (s.m.nx+1)) Q,0)):=ah (by rw[hF.out];exact Ξ (λq=>q h0));have ac:iw g s s W w1:=iw.of_below hW;have O:=U.own;have av:=aR.blk;have aq:Hid (nq=Q.body.length):=ah (by rw[al.out];exact ar.out);have az:Hid (Q.body.length<=2000):=ah (by rw[al.out];exact aV _);have a1:Hid (∀w,aq2 w A1 c1 Q.body):=ah (by rw[al.out];exact hz);clear h0 hF aa xQ Xz;go_wp2_with(first|(with_reducible refine gy rfl 34 _ rfl g5 rfl 34 _ _ av bD rfl (iD _) ?_)|(with_reducible refine gy rfl 136 _ rfl g6 rfl 136 _ _ au bF rfl (kS _ _ _ _) ?_)|(with_reducible refine ni 15 (gB (P)) O rfl _ _ _ rfl rfl rfl (iD _) (Cb _ _ _ _) (kK _) ?_;intro wR kN rW ae;rw[Jg]at kN;obtain⟨Z,vH⟩:=U.Ea kN rW ae ⟨rfl,rfl,rfl,rfl,rfl,rfl,rfl,rfl,rfl⟩;replace ad:=ad.turn vH;replace ac:=iw.trans ac vH;clear O;replace U:=Z;clear Z;have O:=U.own)|(with_reducible refine jq 37 false O rfl _ _ _ rfl rfl rfl (by kernel_rfl) (fA (by decide:37<54) (tK _ _ _).symm) rfl ?_;intro wR kN rW ae;rw[UC]at kN;obtain⟨Z,vH⟩:=U.Ea kN rW ae ⟨rfl,rfl,rfl,rfl,rfl,rfl,rfl,rfl,rfl⟩;replace ad:=ad.turn vH;have a4:=(Z.blk.cell 31).trans apC;replace ac:=iw.trans ac vH;clear O;replace U:=Z;clear Z;have O:=U.own)|(with_reducible refine jq 31 (q32 (s.m.nx+1)) O rfl _ _ _ rfl rfl rfl (by kernel_rfl) (fA (by decide:31<54) (tK _ _ _).symm) rfl ?_;intro wR kN rW ae;rw[amU]at kN;obtain⟨Z,vH⟩:=U.Ea kN rW ae ⟨rfl,rfl,rfl,rfl,rfl,rfl,rfl,rfl,rfl⟩;replace ad:=ad.turn vH;have au:=ad.blk;replace ac:=iw.trans ac vH;clear O;replace U:=Z;clear Z;have O:=U.own)|((with_reducible refine(QE U Q A1 nq c1 aq.out (a1.out _) az.out (aG aM (by decide))).mono ?_);rintro e wS⟨rfl,hP⟩));go_ret;rw[Dp.out];exact⟨rfl,pY.trans ac hP⟩
 .have e0:(er != 0)=true:=by simpa using h0
  have Dp:R=(s.plain,er):=by rw[hF.out];exact Υ h0
  clear h0 hF aa;go_wp2_with fail;go_ret;rw[Dp];exact iK.same h hW rfl
def UY(m:Ma)(v:DF):(nO m v).size=5:=rfl
def lU(m:Ma)(v:DF):(aj.info? 42).map (·.size)=some (nO m v).size:=by rw[UY];kernel_rfl
def BF(m:Ma)(v:DF):(nO m v).all (·.oneCell')=true:=by simp[nO,aK]
def rdM (R:Except Int Ma):Ma:=match R with
 | .error _=>⟨0,false,[],[],0⟩
 | .ok m=>m
def rdE (R:Except Int Ma):Int:=match R with
 | .error er=>er
 | .ok _=>0
def lD (C:Prop) (w:ω) (B:Nat) (m:Ma) (v:DF):Prop:=oV w B m v/\C
theorem aed.one{R:Except Int Ma}(h:aed w R e w'):w w'/\ ∃v,e=.returned (.tuple #[nO (rdM R) v,(rdE R:Int)])/\lD (rdE R=0->R=.ok (rdM R)) w' w (rdM R) v:=by obtain⟨J,H⟩:=h;cases R with|error er=>exact⟨J,⟨none,0,0,none,0,0⟩,H.1,⟨aq1.nil _ _,aq1.nil _ _,rfl,rfl,aV _,aV _⟩,λq=>absurd q H.2⟩|ok m=>obtain⟨v,e1,e2⟩:=H;exact⟨J,v,e1,e2,λ_=>rfl⟩
theorem aq1.turned{α:Type}{E:arb α}{t H:τ}{xs:List α}(h:aq1 E t w b A c xs)(U:arE H w w')(O:t≠H):aq1 E t w' b A c xs:=by
 refine⟨h.1,?_⟩;rcases h.2 with V |⟨k,cap,cur,e,J,M,N⟩;.grind
 .exact .inr ⟨k,cap,cur,e,J,fK.turned M U O,N⟩
def oV.turned{m:Ma}(h:oV w B m v)(H:arE 42 w w'):oV w' B m v:={h with path:=h.path.turned H (by decide),fP:=h.fP.turned H (by decide)}
def oV.below{m:Ma}(h:oV w B m v)(H:w w'):oV w' B m v:={h with path:=h.path.below H,fP:=h.fP.below H}
def aeH (C:Prop) (B:Nat) (n:Ma) (er:Int):Θ->ω->Prop:=fun v w=> ∃vm,v=.tuple #[.agg (nO n vm),.int .i64 er]/\lD C w B n vm
def ahd (C:Prop) (B:Nat) (n:Ma):Θ->ω->Prop:=fun v w=> ∃vm,v=.agg (nO n vm)/\lD C w B n vm
def aeI (C:Prop) (B j:Nat) (n:Ma):(Nat->Θ)->ω->Prop:=fun u w=> ∃g vm,u j=.pointer (some ⟨g,0,none⟩)/\B<=g/\fK w g 42 (nO n vm)/\lD C w B n vm
def oV.ways{m:Ma}(h:oV w B m v)(H:sD B0 s 42 s 42 i w w'):oV w' B m v:=by
 by_cases hi:i=s;.exact h.turned (H.2.2.1 hi)
 .exact h.below (H.2.1 hi hi)
def lD.base{H:Nat}{m:Ma}(h:lD C w B m v)(J:H<=B):lD C w H m v:=⟨h.1.base J,h.2⟩
def lD.turned{m:Ma}(h:lD C w B m v)(H:arE 42 w w'):lD C w' B m v:=⟨h.1.turned H,h.2⟩
def lD.below{m:Ma}(h:lD C w B m v)(H:w w'):lD C w' B m v:=⟨h.1.below H,h.2⟩
def lD.ways{m:Ma}(h:lD C w B m v)(H:sD B0 s 42 s 42 i w w'):lD C w' B m v:=⟨h.1.ways H,h.2⟩
theorem BG:mF ops (sD B0 s 42 s 42) j (gI j (aeH C B n er)):=λ_ H _ _ _ _ _ h J=>jy H h λ_ ⟨M,e,h⟩=>⟨M,e,h.ways J⟩
theorem BH:mF ops (sD B0 s 42 s 42) j (gI j (ahd C B n)):=λ_ H _ _ _ _ _ h J=>jy H h λ_ ⟨M,e,h⟩=>⟨M,e,h.ways J⟩
theorem zq(N:Dx ops b s=true):mF ops (sD B0 s 42 s 42) s (aeI C B b n):=by intro i H O u v w w' h M;obtain⟨g,Y,e,U,J,hm⟩:=h;have V:i≠b:=λe=>ug N (e▸O);exact⟨g,Y,by rw[jH u v (λe=>V e.symm)];exact e,U,J.below (M.2.1 H H) J.lt,hm.below (M.2.1 H H)⟩
def iJ.aeJ{s:Cs}(h:iJ w0 Bq g tm now s W)(H:Own w0 W' [(g,87,(s.kP n v).cells tm now)])(O:W'.heap.size=W.heap.size)(N: ∀k,k≠g->W'.heap[k]? =W.heap[k]?)(hm:oV W B n v)(hB:Bq<=B):iJ w0 Bq g tm now (s.kP n v) W'/\iw g s (s.kP n v) W W':=by have U:iw g s (s.kP n v) W W':=iw.put (H.below.os.trans h.below.os.symm) (H.below.tape.trans h.below.tape.symm) (H.below.output.trans h.below.output.symm) O N rfl rfl;have M:=h.tr;have J:=hm.base hB;exact⟨h.put H U O N ⟨J.path,J.fP,M.stops,hm.e1,hm.e2,M.e3,hm.l1,hm.l2,M.l3⟩ rfl rfl rfl (ard J.path h.blk (by decide)) (ard J.fP h.blk (by decide)) (ard M.stops h.blk (by decide)),U⟩
theorem aeK(m:Ma)(v:DF)(w:ω)(h:EK w m v)(Y:m.fP≠ []):Γ aj 223 #[nO m v] w λr w'=>r=.returned (Hf m:Int)/\w w':=by
 have H:Own w _ [_]:=(Own.nil w).alloc 42 (nO m v) _ rfl;have U:=H.b0.cell;obtain⟨k,x,M,N⟩: ∃k x,m.fP.length=k+1/\m.fP[k]? =some x:=by cases V:m.fP.length with|zero=>exact absurd (dh.1 V) Y|succ k=>exact⟨k,m.fP[k]'(by omega),rfl,by simp⟩
 have hF:Hf m=x.kL:=by unfold Hf qg;rw[List.getLast?_eq_getElem?,M,Nat.add_sub_cancel,N]
 rw[hF];have hn:v.n2=k+1:=by rw[<-h.e2];exact M
 have Z:=h.l2;obtain⟨b,off,O,_,hc⟩:=(h.fP.below H.below).get N;have J:=hc 0 x.kL rfl;simp only[bI]at J;unfold nO at*;rw[hn,O]at U H J |-;have hi:(k:Int)+1-1=k:=by omega
 have hw:IntKind.i64.wrap (((k+1:Nat):Int)-1)=(k:Int):=by rw[IntKind.wrap_i64];omega
 have h3:k<=100:=by omega
 have e2:kW.k=2:=rfl;rw[e2]at J;go_enter func223,ntmps223;go_wp2_with fail;go_ret;exact⟨rfl,H.below⟩
theorem aeL(A:Option δ)(n c:Nat)(l:List St)(B:Option δ)(k d:Nat)(r:List St)(w:ω)(U:fE gV w A l)(hn:l.length=n)(Z:n<=c)(V:fE gV w B r)(hm:r.length=k)(hl:n<=1000)(ac:k<=1000):Γ aj 222 #[.slice A n c,.slice B k d] w λe w'=>e=.returned (.bool (Cc l r))/\w w':=by
 have N:k<=n->Γ aj 258 #[.slice A k c,.slice B k d] w λe w'=>e=.returned (.bool (decide (l.take k=r)))/\w w':=λJ=>amx A k c (l.take k) B k d r w (U.part k) (by simp;omega) V hm (by omega) (by omega);obtain⟨b,H⟩:=fD (Cc l r);rw[<-H];unfold Cc at H;by_cases J:k<=n
 .have e1:decide (k<=n)=true:=by simpa using J
  have O:=N J;have M:b=decide (l.take k=r):=by rw[H,hm,hn,e1];rfl
  have aa:k<=c:=aG J Z;rw[<-M]at O;clear H M hn hm N;go_enter func222,ntmps222;go_wp2_with((with_reducible refine O.mono ?_);rintro e w1⟨rfl,Y⟩);go_ret;exact⟨rfl,Y⟩
 .have e1:decide (k<=n)=false:=by simpa using J
  have M:b=false:=by rw[H,hm,hn,e1];rfl
  rw[M];go_enter func222,ntmps222;go_wp2_with fail;go_ret;exact⟨rfl,aH _ _⟩
theorem XP(v:List Int)(A:Option δ)(n c:Nat)(w:ω)(hR:fE aq7 w A v)(hn:v.length=n)(h5:5<=n):Γ aj 225 #[.slice A n c] w λe w'=>e=.returned (.tuple #[(II (v.getD 4 0) (v.getD 1 0):Int),.bool (Ud (v.getD 4 0) (v.getD 1 0)==0)])/\w w':=by
 obtain⟨U,h4⟩:=fD (v.getD 4 0);obtain⟨O,Y⟩:=fD (v.getD 1 0);rw[<-h4,<-Y];have g4:v[4]? =some U:=by rw[h4,bH,aI (by omega)];rfl
 have g1:v[1]? =some O:=by rw[Y,bH,aI (by omega)];rfl
 obtain⟨b,off,eA,hb,N⟩:=hR.get g4;obtain⟨b',ag,V,_,M⟩:=hR.get g1;have N:=N 0 U rfl;have M:=M 0 O rfl;rw[eA]at V;obtain⟨q1,q2⟩:b=b'/\off=ag:=by simpa using V
 subst q1;subst q2;clear V;have e1:aq7.k=1:=rfl;rw[e1]at N M;simp only[Nat.mul_one,bI]at N M;have ad:=λW=>ajG U O W;obtain⟨dt,ae⟩:=fD (II U O);obtain⟨de,ac⟩:=fD (Ud U O);rw[<-ae,<-ac]at ad |-;have i4:4<n:=by omega
 subst eA;clear hR hn h5 h4 Y g4 g1 e1 ae ac;go_enter func225,ntmps225;go_upto_region 1 with fail;apply jJ [];case lX=>intro u;simp only[bV,aq9,aP,ay,aA,aB,aT,aJ];rfl
 case hm=>kernel_rfl
 case hB=>kernel_rfl
 case hap=>kernel_rfl
 repeat(first|(apply jI.is;·(intro u w' H J;simp[fH,aC,Is]at J;refine fC ?_ ?_;(·(first|rfl));intro K hK;have H:=H.below ig (by intro k o h;simp at h);have ak:=(H.cell (p:=⟨b,off+4,none⟩) hb).trans N;have ai:=(H.cell (p:=⟨b,off+1,none⟩) hb).trans M;go_wp2_with(((with_reducible refine(ad _).mono ?_);rintro e w3⟨rfl,af⟩;obtain rfl:=af.symm));(try simp only[J]at hK);refine hK _ _ ?_ rfl;first|exact Stp.refl _ _)))
 refine jI.nil ?_ ?_;.simp[W2.fit,qy]
 intro u w7 H J;simp only[gQ]at J;replace H:=H.below ig (by intro k o h;simp at h);have Z:=J 10 _ rfl;have aa:=J 11 _ rfl;simp only[Is]at Z aa;clear J;simp only[Z,aa];clear Z aa;go_wp2_with fail;go_ret2;exact⟨rfl,H⟩
def nT (w0:ω) (Bq g:Nat) (tm:jl) (now:Int) (s:Cs) (W:ω) (F:Cp) (e:ε) (W':ω):Prop:=e=.returned (.tuple #[])/\pY w0 Bq g tm now s W F W'
def nT.same{s:Cs}(h:iJ w0 Bq g tm now s W)(H:W W')(J:e=.returned (.tuple #[])):nT w0 Bq g tm now s W s.plain e W':=⟨J,pY.same h H⟩
def UZ{c:Cp}(h:c.x.on=false\/0<c.x.stops.length):FQ t now c m=c:=Υ h
theorem ahe{c:Cp}(h: ¬(c.x.on=false\/0<c.x.stops.length)):FQ t now c m=match ql t m.sS (Dn m) m.p with
 | .error _=>c
 | .ok n=>if 268435456<atM m then c else
   match qZ t n c.x.pos with
   |none=>c
   |some f=>if f<jB n.fP (wrap64 (now-atM m)) 0 then((c.kP n).setAt (atM m)).wU true else c:=Ξ h
def aeM(h:m.p= []):Dn m=false:=by unfold Dn;rw[h]
def aaV(h:m.p=p::ps)(H:p.v= []):Dn m=false:=by unfold Dn;rw[h];simp only[H]
def aaW{n:Int}{l:List Int}(h:m.p=p::ps)(H:p.v=n::l):Dn m=decide (n=0):=by unfold Dn;rw[h];simp only[H]
theorem akP{s:Cs}(U0:jE w0 t tm)(hT:Tab w0)(h:iJ w0 Bq g tm now s W)(m:Ms)(a:Vx)(Bm:Nat)(hm:uP W Bm m a)(cg: ∀p∈m.p,∀x∈p.v,0<=x/\x<=4294967295):Γ aj 173 #[.pointer (some ⟨g,0,none⟩),.agg (oC m a)] W (nT w0 Bq g tm now s W (FQ t now s.plain m)):=by
 obtain⟨R,hR⟩:=fD (FQ t now s.plain m);rw[<-hR];have HR:=ah hR;have hO:Own W _ [_]:=Own.jD W 196 (oC m a);obtain⟨W1,an⟩:=fD (W.alloc (.cells (oC m a) 196));have ae:W W1:=by rw[an];exact hO.below
 have h1:iJ w0 Bq g tm now s W1:=h.grow ae;rw[<-an]at hO;have H1:=ah h1;have ch:=ah an;obtain⟨on,bi⟩:=fD s.x.on;have bS:(s.cells tm now)[37]? =some (.bool on):=by rw[bi];rfl
 obtain⟨ns,bh⟩:=fD s.m.n3;have bX:(s.cells tm now)[51]? =some (.slice s.m.A3 ns s.m.c3):=by rw[bh];rfl
 have bo:=ah bi;have bn:Hid (ns=s.x.stops.length):=ah (by rw[bh];exact h.tr.e3.symm);have a5:=h1.blk.cell 37;have bA:=h1.blk.cell 51;rw[bS]at a5;rw[bX]at bA;clear hR bi bh h1;rcases on with _ |_;focus(have aa:Hid (R=s.plain):=ah (by rw[HR.out];exact UZ (.inl bo.out.symm)))
 rotate_left;focus(
  by_cases a8:0<ns;focus(have aa:Hid (R=s.plain):=ah (by rw[HR.out];exact UZ (.inr (by rw[show s.plain.x=s.x from rfl,<-bn.out];exact a8)));(have f1:decide (0<ns)=true:=by simpa using a8);clear a8)
  rotate_left
  .have f1:decide (0<ns)=false:=by simp;omega
   have au : Hid (R = match ql t m.sS (Dn m) m.p with
     | .error _=>s.plain
     | .ok n=>if 268435456<atM m then s.plain else
       match qZ t n s.x.pos with
       |none=>s.plain
       |some f=>if f<jB n.fP (wrap64 (now-atM m)) 0 then((s.plain.kP n).setAt (atM m)).wU true else s.plain):=ah (by
     rw[HR.out]
     refine ahe ?_
     rintro (q |q)
     ·
       have:=bo.out;rw[show s.plain.x.on=s.x.on from rfl,<-this]at q;cases q
     ·
       rw[show s.plain.x=s.x from rfl,<-bn.out]at q;omega)
   clear a8 HR;have aw:=hO.b0.cell;unfold oC at aw;obtain⟨np,ac⟩:=fD m.p.length;rw[<-ac]at aw;have RS:=ah ac;clear ac;go_enter func173,ntmps173;go_upto_region 1 with fail;rw[<-an];clear an;go_upto_region 2 with fail;obtain⟨Y,U⟩:=fD (Dn m);have aR:=ah U;clear U;go_cut [4] from 25 (λx W'=>x=.bool Y/\W'=W1);case first=>
    obtain⟨xs,bk,az⟩:=hm.p;have ac:=RS.out;cases ad:m.p with
    |nil=>rw[ad]at ac;(have e0:decide (0<np)=false:=by rw[ac];rfl);have U:Y=false:=aR.out.trans (aeM ad);clear ac ad;go_wp2_with fail;go_meet;exact⟨by rw[U],rfl⟩
    |cons p ps=>
     rw[ad]at ac;(have e0:decide (0<np)=true:=by rw[ac];simp);have a9:xs.length=m.p.length:=az.1;cases aM:xs with
     |nil=>rw[aM,ad]at a9;cases a9
     |cons x cn=>have aL:=az.2 0 x p (by rw[aM];rfl) (by rw[ad];rfl);obtain⟨bp,op,eA,_,bf⟩:=(bk.rows.below ae).get (i:=0) (x:=x) (by rw[aM];rfl);have bw:=bf 1 (.slice x.A x.n x.c) rfl;simp only[Nat.zero_mul,bI]at bw;(have cm:0<np:=by rw[ac];simp);simp only[eA]at aw;cases aq:p.v with|nil=>(have ba:x.n=0:=by rw[aL.n,aq];rfl);(have e2:decide (0<x.n)=false:=by rw[ba];rfl);have U:Y=false:=aR.out.trans (aaV ad aq);clear ac ad ba aM aq a9 az aL bf;go_wp2_with fail;go_meet;exact⟨by rw[U],rfl⟩|cons n l=>(have ba:0<x.n:=by rw[aL.n,aq];simp);(have e2:decide (0<x.n)=true:=by simpa using ba);obtain⟨bv,ov,eV,_,bx⟩:=(aL.row.below ae).get (i:=0) (x:=n) (by rw[aq];rfl);have cd:=bx 0 (.int .i64 n) rfl;simp only[Nat.zero_mul,bI]at cd;have U:Y=decide (n=0):=aR.out.trans (aaW ad aq);simp only[eV]at bw;clear ac ad aM aq a9 az aL bf bx eA eV;by_cases V:n=0;(·(have e4:(n==0)=true:=by simpa using V);(have bd:Y=true:=by rw[U];simpa using V);clear U V;go_wp2_with fail;go_meet;exact⟨by rw[bd],rfl⟩);·(have e4:(n==0)=false:=by simpa using V);(have bd:Y=false:=by rw[U];simpa using V);clear U V;go_wp2_with fail;go_meet;exact⟨by rw[bd],rfl⟩
   case rest=>
    obtain⟨rfl,rfl⟩:=hcut;have Lm: ∀W',wc W'-> ∀i,W'.cell? ⟨W,i,none⟩=(#[.int .i64 m.id,.int .i64 m.t,.int .i64 m.ack,.int .i64 m.sS,.slice a.Av m.v.length a.cv,.slice a.Ap np a.cp]:Array Θ)[i]? :=λW' hb i=>((hO.b0.below hb hO.b0.lt).cell i).trans (by rw[RS.out];rfl);obtain⟨N,bL⟩:=fD (rdM (ql t m.sS Y m.p));obtain⟨re,al⟩:=fD (rdE (ql t m.sS Y m.p));obtain⟨C,bc⟩: ∃C:Prop,C=(re=0->ql t m.sS Y m.p=.ok N):=⟨_,rfl⟩;(have bE: ∀W',wc W'->Γ aj 221 #[.agg tm.cells,.int .i64 m.sS,.bool Y,.slice a.Ap np a.cp] W' λe w'=>W' w'/\ ∃v,e=.returned (.tuple #[.agg (nO N v),.int .i64 re])/\lD C w' W' N v:=by intro W' hb;have a4:W W':=ae.trans (hb.mono ae.size);obtain⟨xs,bk,az⟩:=hm.p;have:=aee ((U0.below h.below).below a4) ((hT.below h.below).below a4) m.sS Y a.Ap a.cp m.p xs (bk.rows.below a4) Bm (rH.ji az (jV.of_below a4 (λ_=>False)) (λ_ H=>H.elim)) hm.pl hm.pv cg;rw[<-RS.out]at this;refine this.mono (λe w' h=>?_);rw[bc,bL,al];exact h.one);have bR:=ah al;have bm:=ah bc;clear bL al bc aw a5 bA;go_upto_region 3 with fail;apply gu (Below wc) (λW=>aq3 gY 1) (λ_ _ _ h1 h2=>h1.trans h2) (sD wc 14 42 14 42) (λ_ _ _ h=>h.1) (λ_ _=>fZ _ _ _ _ _ _ _) (λ_ _=>True) (λ_=>trivial) (λ_ _ _ _ _ _ _=>trivial);(case lX=>intro u;simp only[bV,aq9,aP,ay,aA,aB,aT,aJ];with_reducible rfl);(case hm=>kernel_rfl);(case hB=>kernel_rfl);(case hA=>kernel_rfl);(case hap=>kernel_rfl);(iterate 3(apply fM.is;·(intro u w' H ag J;simp[fO,aC,gI,Is]at J;refine fC ?_ ?_;(.first|rfl);intro K M;skip;go_wp2_with(fail);(try simp only[J]at M);refine M _ _ ?_ rfl;first|exact fZ _ _ _ _ _ _ _)));refine fM.is (c:=.agg (tm.cells)) ?_ ?_;(·(intro u w' H ag J;simp[fO,aC,gI,Is]at J;refine fC (by first |rfl) ?_;intro K M;have hC:=(H1.out.grow H).own;exact wC hC 0 _ (sW _ _ _) _ _ rfl (by rw[<-J];rfl) _ dB rfl (by kernel_rfl) (M _ _ (fZ _ _ _ _ _ _ _) rfl)));(iterate 5(first|(apply fM.is;·(intro u w' H ag J;simp[fO,aC,gI,Is]at J;refine fC ?_ ?_;(.first|rfl);intro K M;skip;go_wp2_with(fail);(try simp only[J]at M);refine M _ _ ?_ rfl;first|exact fZ _ _ _ _ _ _ _))|(apply fM.is;·(intro u w' H ag J;simp[fO,aC,gI,Is]at J;refine fC ?_ ?_;(.first|rfl);intro K M;go_wp2_with(fail);(try simp only[J]at M);refine M _ _ ?_ rfl;first|exact fZ _ _ _ _ _ _ _))));refine fM.one (aeH C wc N re) ?_ ?_;(·(intro u w' H ag J;simp only[gQ]at J;have q3:=J ⟨3,.data⟩ (by simp) rfl _ rfl;have q5:=J ⟨5,.data⟩ (by simp) rfl _ rfl;have q6:=J ⟨6,.data⟩ (by simp) rfl _ rfl;have q8:=J ⟨8,.data⟩ (by simp) rfl _ rfl;simp only[gI,Is]at q3 q5 q6 q8;clear J;refine fC (by first |rfl) ?_;intro K M;skip;go_wp2_with(((with_reducible refine(bE _ H).mono ?_);rintro e w3⟨ai,O,rfl,ak⟩));(try simp only[q3,q5,q6,q8]at M);exact M _ _ (iL H.size ai (by decide) (by decide)) ⟨O,rfl,ak.base H.size⟩));refine fM.one (aeH C wc N re) ?_ ?_;(·(intro u w' H ag J;simp only[gQ]at J;have q1:=J ⟨9,.data⟩ (by simp) rfl _ rfl;obtain⟨O,q1,ak⟩: ∃O,u 9=.tuple #[.agg (nO N O),.int .i64 re]/\lD C w' wc N O:=q1;clear J;refine fC (by first |rfl) ?_;intro K M;go_wp2_with fail;(try simp only[q1]at M);exact M _ _ (fZ _ _ _ _ _ _ _) ⟨O,rfl,ak⟩));refine fM.one (ahd C wc N) ?_ ?_;(·(intro u w' H ag J;simp only[gQ]at J;have q1:=J ⟨10,.data⟩ (by simp) rfl _ rfl;obtain⟨O,q1,ak⟩: ∃O,u 10=.tuple #[.agg (nO N O),.int .i64 re]/\lD C w' wc N O:=q1;clear J;refine fC (by first |rfl) ?_;intro K M;go_wp2_with fail;(try simp only[q1]at M);exact M _ _ (fZ _ _ _ _ _ _ _) ⟨O,rfl,ak⟩));refine fM.one (Is (.int .i64 re)) ?_ ?_;(·(intro u w' H ag J;simp only[gQ]at J;have q1:=J ⟨10,.data⟩ (by simp) rfl _ rfl;obtain⟨O,q1,ak⟩: ∃O,u 10=.tuple #[.agg (nO N O),.int .i64 re]/\lD C w' wc N O:=q1;clear J;refine fC (by first |rfl |simp[aF,ψ]) ?_;intro K M;go_wp2_with fail;(try simp only[q1]at M);exact M _ _ (fZ _ _ _ _ _ _ _) rfl));refine fM.one (pV wc 42 5) ?_ ?_;(·(intro u w' H ag J;clear J;refine fC (by first |rfl |simp[aF,ψ]) ?_;intro K M;go_wp2_with fail;exact M _ _ (iL H.size jm (by decide) (by decide)) ⟨w',_,rfl,H.size,fK.new _ _ _,rfl⟩));refine fM.word (aeI C wc 13 N) ?_ ?_;(·(intro u w' H ag J;simp only[gQ]at J;have q1:=J ⟨13,.data⟩ (by simp) rfl _ rfl;have q2:=J ⟨11,.data⟩ (by simp) rfl _ rfl;obtain⟨O,q2,ak⟩: ∃O,u 11=.agg (nO N O)/\lD C w' wc N O:=q2;obtain⟨g5,cs,bB,hg,U,bN⟩:pV wc 42 5 (u 13) w':=q1;clear J;refine jF (by first |rfl |simp[aF,ψ]) ?_;intro K M;have jL: ∀k,k≠g5->(w'.setRow g5 (nO N O)).heap[k]? =w'.heap[k]? :=λk H=>ζ w' g5 k _ H;have hT:arE 42 w' (w'.setRow g5 (nO N O)):=.inr ⟨g5,cs,nO N O,U,U.row _,(UY _ _).trans bN.symm,arq _ _ _,jL⟩;exact η 42 _ _ rfl g5 (nO N O) (by rw[<-bB];rfl) (by rw[<-q2];rfl) 42 cs U (lU _ _) (bN.trans (UY _ _).symm) (BF _ _) (M υ _ ⟨jk gY hg _,λh _=>absurd rfl h,λ_=>hT,λ_=>hT⟩ ⟨g5,O,by rw[jH u υ (by decide)];exact bB,hg,U.row _,ak.turned hT⟩)));refine fM.last (qm ?_) ?_;(.simp only[gQ];(repeat(refine⟨?_,?_⟩;.first|exact mQ _|exact BG|exact BH|exact qP|exact zq (by kernel_rfl)));exact trivial);intro u w1 H _ J;simp only[gQ]at J;obtain⟨g5,vm,e5,ci,xQ,a7⟩:=J 14 _ rfl;have bb:=J 12 _ rfl;simp only[gI,Is]at bb;clear J;refine⟨by first |rfl |simp[aF,ψ],?_⟩;intro K M;simp only[e5,bb];clear bb;have hW:W w1:=ae.trans (H.mono ae.size);have aw:=Lm _ H;go_upto_region 5 with fail;obtain⟨q,hq⟩:=fD (atM m);rw[show wrap64 (m.t.tdiv 8)=q from hq.symm];rw[<-hq]at au;rw[<-aR.out]at au;have bO:Hid (re=0->ql t m.sS Y m.p=.ok N):=ah (by have:=a7.2;rwa [bm.out]at this);have Z:=h.grow hW;clear hq bm bE Lm;by_cases V:re=0
    ·(have e0:(re != 0)=false:=by simpa using V);have CZ:=bO.out V;by_cases h9:268435456<q;·(have e9:decide (268435456<q)=true:=by simpa using h9);have aa:Hid (R=s.plain):=ah (by rw[au.out,CZ];exact Υ h9);clear V CZ h9;go_wp2_with fail;go_end0;rw[aa.out];exact nT.same h hW rfl
     .have e9:decide (268435456<q)=false:=by simpa using h9
      have a1 : Hid (R = match qZ t N s.x.pos with
        |none=>s.plain
        |some f=>if f<jB N.fP (wrap64 (now-q)) 0 then((s.plain.kP N).setAt q).wU true else s.plain):=ah (by rw[au.out,CZ];exact Ξ h9)
      clear V CZ h9 au aw;have av:=ah Z;have ap:=λX (hX:w1 X)=>Yr (((U0.below h.below).below hW).below hX) N vm (a7.1.is_.below hX) s.x.pos;go_upto_region 6 with fail;cases ax:qZ t N s.x.pos with
      |none=>
       rw[ax]at ap;unfold rE at ap;have aa:Hid (R=s.plain):=ah (by rw[a1.out,ax]);clear ax a1;refine ara (by kernel_rfl) ?_
       repeat(first
          |(refine gX.part (a':=?_) (λ_ H=>(av.out.grow H).blk) 0 (tm.cells) (sW _ _ _) rfl _ _ rfl rfl _ dB rfl (by kernel_rfl) ?_ ?_;rotate_left 1;·(simp only[aP,ay,aA,aB];rfl)) |(refine gX.part (a':=?_) (λ_ H=>(av.out.grow H).blk) 38 (#[.int .i64 s.x.pos.edge,.int .i64 s.x.pos.at_,.bool s.x.pos.rev]) (Ih _ _ _) rfl _ _ rfl rfl _ underlying38 rfl (by kernel_rfl) ?_ ?_;rotate_left 1;·(simp only[aP,ay,aA,aB];rfl)) |(refine gX.whole (a':=?_) (λ_ H=>xQ.below H xQ.lt) rfl _ _ rfl rfl _ dA rfl (lU _ _) ?_ ?_;rotate_left 1;·(simp only[aP,ay,aA,aB];rfl))
          |(apply gX.want rfl;(.intro w' H K Q' M;skip;go_wp2_with(((with_reducible refine(ap _ H).mono ?_);rintro e w3⟨rfl,ai⟩));first|exact aH _ _|exact ai);(.simp only[aP,ay,aA,aB];rfl))
          |(apply gX.skip rfl;.simp only[aP,ay,aA,aB];rfl))
       refine gX.nil ?_;intro w7 H;have af:=H;go_upto_region 7 with fail;refine ara (by kernel_rfl) ?_;(repeat(first|(refine gX.whole (a':=?_) (λ_ H=>xQ.below H xQ.lt) rfl _ _ rfl rfl _ dA rfl (lU _ _) ?_ ?_;rotate_left 1;·(simp only[aP,ay,aA,aB];rfl))|(apply gX.want rfl;(.intro w' H K Q' M;skip;go_wp2_with(fail);first|exact aH _ _|exact ai);(.simp only[aP,ay,aA,aB];rfl))|(apply gX.skip rfl;.simp only[aP,ay,aA,aB];rfl)));refine gX.nil ?_;intro w7 H;go_wp2_with fail;go_end0;rw[aa.out];exact nT.same h (hW.trans ((af.trans (H.mono af.size)).mono hW.size)) rfl
      |some f=>
       rw[ax]at ap;unfold rE at ap;have aD:Hid (R=if f<jB N.fP (wrap64 (now-q)) 0 then((s.plain.kP N).setAt q).wU true else s.plain):=ah (by rw[a1.out,ax]);clear ax a1;refine ara (by kernel_rfl) ?_
       repeat(first
          |(refine gX.part (a':=?_) (λ_ H=>(av.out.grow H).blk) 0 (tm.cells) (sW _ _ _) rfl _ _ rfl rfl _ dB rfl (by kernel_rfl) ?_ ?_;rotate_left 1;·(simp only[aP,ay,aA,aB];rfl)) |(refine gX.part (a':=?_) (λ_ H=>(av.out.grow H).blk) 38 (#[.int .i64 s.x.pos.edge,.int .i64 s.x.pos.at_,.bool s.x.pos.rev]) (Ih _ _ _) rfl _ _ rfl rfl _ underlying38 rfl (by kernel_rfl) ?_ ?_;rotate_left 1;·(simp only[aP,ay,aA,aB];rfl)) |(refine gX.whole (a':=?_) (λ_ H=>xQ.below H xQ.lt) rfl _ _ rfl rfl _ dA rfl (lU _ _) ?_ ?_;rotate_left 1;·(simp only[aP,ay,aA,aB];rfl))
          |(apply gX.want rfl;(.intro w' H K Q' M;skip;go_wp2_with(((with_reducible refine(ap _ H).mono ?_);rintro e w3⟨rfl,ai⟩));first|exact aH _ _|exact ai);(.simp only[aP,ay,aA,aB];rfl))
          |(apply gX.skip rfl;.simp only[aP,ay,aA,aB];rfl))
       refine gX.nil ?_;intro w7 H;have af:=H;have Xz:=xQ.below af xQ.lt;have bq:=ah (av.out.grow af);obtain⟨rc,bj⟩:=fD (jB N.fP (wrap64 (now-q)) 0);have al:=λX (hX:w7 X)=>I5 N vm (wrap64 (now-q)) X ((a7.1.is_.below af).below hX);rw[<-bj]at al;rw[<-bj]at aD;have ca:(s.cells tm now)[52]? =some (.int .i64 now):=rfl;clear ap bj;go_upto_region 7 with fail;refine ara (by kernel_rfl) ?_;(repeat(first|(refine gX.whole (a':=?_) (λ_ H=>Xz.below H Xz.lt) rfl _ _ rfl rfl _ dA rfl (lU _ _) ?_ ?_;rotate_left 1;·(simp only[aP,ay,aA,aB];rfl))|(apply gX.want rfl;(.intro w' H K Q' M;have a5:=(bq.out.grow H).blk.cell 52;rw[ca]at a5;go_wp2_with(((with_reducible refine(al _ H).mono ?_);rintro e w3⟨rfl,ai⟩));first|exact aH _ _|exact ai);(.simp only[aP,ay,aA,aB];rfl))|(apply gX.skip rfl;.simp only[aP,ay,aA,aB];rfl)));refine gX.nil ?_;intro w7 H;have a6:=af.trans (H.mono af.size);have Z:=av.out.grow a6;have Xp:=xQ.below a6 xQ.lt;have cf:=a7.1.below a6;have bu:=hW.trans (a6.mono hW.size);by_cases hz:f<rc;(.have aa:Hid (R=((s.plain.kP N).setAt q).wU true):=ah (by rw[aD.out];exact Υ hz);have ar:iw g s s W _:=iw.of_below bu;have hC:=Z.own;have cc:=aG h.hi ae.size;clear aD al H af Xz bq;go_wp2_with(first|(with_reducible refine gy rfl 42 _ rfl g5 rfl 42 _ _ Xp dA rfl (lU _ _) ?_)|(with_reducible refine ni 44 (nO N vm) hC rfl _ _ _ rfl rfl rfl (lU _ _) (QC _ _ _ _ _) (BF _ _) ?_;intro wR kN rW aE;rw[ad8]at kN;obtain⟨am,vH⟩:=Z.aeJ kN rW aE cf cc;replace ar:=iw.trans ar vH;clear hC;replace Z:=am;clear am;have hC:=Z.own)|(with_reducible refine jq 49 (.int .i64 q) hC rfl _ _ _ rfl rfl rfl (by kernel_rfl) (fA (by decide:49<54) (tK _ _ _).symm) rfl ?_;intro wR kN rW aE;rw[amV]at kN;obtain⟨am,vH⟩:=Z.Ea kN rW aE ⟨rfl,rfl,rfl,rfl,rfl,rfl,rfl,rfl,rfl⟩;skip;replace ar:=iw.trans ar vH;clear hC;replace Z:=am;clear am;have hC:=Z.own)|(with_reducible refine jq 50 (.bool true) hC rfl _ _ _ rfl rfl rfl (by kernel_rfl) (fA (by decide:50<54) (tK _ _ _).symm) rfl ?_;intro wR kN rW aE;rw[agO]at kN;obtain⟨am,vH⟩:=Z.Ea kN rW aE ⟨rfl,rfl,rfl,rfl,rfl,rfl,rfl,rfl,rfl⟩;skip;replace ar:=iw.trans ar vH;clear hC;replace Z:=am;clear am;have hC:=Z.own));go_end0;rw[aa.out];exact⟨rfl,_,Z,ar,rfl⟩);.have aa:Hid (R=s.plain):=ah (by rw[aD.out];exact Ξ hz);replace hz:=Int.not_lt.1 hz;clear aD al;go_wp2_with fail;go_end0;rw[aa.out];exact nT.same h bu rfl
    ·(have e0:(re != 0)=true:=by simpa using V);have aa:Hid (R=s.plain):=ah (by have h2:=bR.out;rw[au.out];cases hr:ql t m.sS Y m.p with|error er=>rfl|ok n=>rw[hr]at h2;exact absurd h2 V);clear V;go_wp2_with fail;go_end0;rw[aa.out];exact nT.same h hW rfl)
 all_goals(go_enter func173,ntmps173;go_upto_region 1 with fail;rw[<-an];clear an;go_wp2_with fail;go_end0;rw[aa.out];exact nT.same h ae rfl)
def OE(o:Option Int):rE o=.tuple #[.int .i64 (o.getD 0),.bool o.isSome]:=by cases o <;> rfl
def aeN{c:Cp}(h:jR t c.x=none):Bo t c m=(c,1):=by unfold Bo;rw[h]
def ahf{c:Cp}(h:jR t c.x=some f)(H:Ud (m.v.getD 4 0) (m.v.getD 1 0)≠0\/m.sS≠c.x.ma.ref\/II (m.v.getD 4 0) (m.v.getD 1 0)<f):Bo t c m=(c,1):=by unfold Bo;rw[h];exact Υ H
def aeO{c:Cp}(h:jR t c.x=some f)(H: ¬(Ud (m.v.getD 4 0) (m.v.getD 1 0)≠0\/m.sS≠c.x.ma.ref\/II (m.v.getD 4 0) (m.v.getD 1 0)<f)):Bo t c m=(if(nN c.x.ma (II (m.v.getD 4 0) (m.v.getD 1 0))).fP.length=0 then(c.kP (nN c.x.ma (II (m.v.getD 4 0) (m.v.getD 1 0)))).rQ (pJ (c.kP (nN c.x.ma (II (m.v.getD 4 0) (m.v.getD 1 0)))).x) else c.kP (nN c.x.ma (II (m.v.getD 4 0) (m.v.getD 1 0))),0):=by unfold Bo;rw[h];exact Ξ H
def apD(tm:jl)(now:Int)(s:Cs)(n:Ma)(v:DF):((s.kP n v).cells tm now)[47]? =some (.slice v.A2 v.n2 v.c2):=rfl
theorem aeP{s:Cs}(U0:jE w0 t tm)(h:iJ w0 Bq g tm now s W)(m:Ms)(a:Vx)(hv:fE aq7 W a.Av m.v)(h5:5<=m.v.length):Γ aj 175 #[.pointer g,.agg (oC m a)] W (iK w0 Bq g tm now s W (Bo t s.plain m)):=by
 obtain⟨R,hR⟩:=fD (Bo t s.plain m);rw[<-hR];have HR:=ah hR;have hO:Own W _ [_]:=Own.jD W 196 (oC m a);obtain⟨Z,af⟩:=fD (W.alloc (.cells (oC m a) 196));have ad:W Z:=by rw[af];exact hO.below
 rw[<-af]at hO;have H1:=ah (h.grow ad);have Lm: ∀W',Z W'-> ∀i,W'.cell? ⟨W,i,none⟩=(#[.int .i64 m.id,.int .i64 m.t,.int .i64 m.ack,.int .i64 m.sS,.slice a.Av m.v.length a.cv,.slice a.Ap m.p.length a.cp]:Array Θ)[i]? :=λW' H i=>(hO.b0.below H hO.b0.lt).cell i;obtain⟨nv,LP⟩:=fD m.v.length;rw[<-LP]at Lm h5;have aL:=λX (hX:Z X)=>XP m.v a.Av nv a.cv X ((hv.below ad).below hX) LP.symm h5;obtain⟨N,ar⟩:=fD (II (m.v.getD 4 0) (m.v.getD 1 0));obtain⟨de,aq⟩:=fD (Ud (m.v.getD 4 0) (m.v.getD 1 0));rw[<-ar,<-aq]at aL;have ak:=ah ar;have aR:=ah aq;obtain⟨fx,aw⟩:=fD (jR t s.x);have Rk:=ah aw;have ag:=λX (hX:Z X)=>Bj (((U0.below h.below).below ad).below hX) s.x s.m ((H1.out.grow hX).tr.is);rw[<-aw,OE]at ag;obtain⟨fn,au⟩:=fD (fx.getD 0);obtain⟨fo,av⟩:=fD fx.isSome;rw[<-au,<-av]at ag;have ae:=ah au;have Y4:=ah av;obtain⟨rf,aE⟩:=fD s.x.ma.ref;have a7:(s.cells tm now)[44]? =some (.int .i64 rf):=by rw[aE];rfl
 have a4:=ah aE;clear hR LP ar aq aw au av aE h5;go_enter func175,ntmps175;go_upto_region 1 with fail;rw[<-af];clear af;refine ara (by kernel_rfl) ?_
 repeat(first
    |(refine gX.part (a':=?_) (λ_ J=>(H1.out.grow J).blk) 0 (tm.cells) (sW _ _ _) rfl _ _ rfl rfl _ dB rfl (by kernel_rfl) ?_ ?_;rotate_left 1;·(simp only[aP,ay,aA,aB];rfl)) |(refine gX.part (a':=?_) (λ_ J=>(H1.out.grow J).blk) 4 (jf s.x s.m) (oU _ _ _) rfl _ _ rfl rfl _ bg rfl (iF _ _) ?_ ?_;rotate_left 1;·(simp only[aP,ay,aA,aB];rfl))
    |(apply gX.want rfl;(.intro w' J K Q' hK;skip;go_wp2_with(((with_reducible refine(ag _ J).mono ?_);rintro e w3⟨rfl,bn⟩));first|exact aH _ _|exact bn);(.simp only[aP,ay,aA,aB];rfl)))
 refine gX.nil ?_;intro w7 J;clear ag;have bf:=aL _ J;have ac:=J;go_upto_region 3 with((with_reducible refine bf.mono ?_);rintro e w2⟨rfl,bm⟩;have ac:=J.trans (bm.mono J.size);have bu:=Lm _ ac)
 have am:W w2:=ad.trans (ac.mono ad.size);have M:=h.grow am;have a5:=ah M;obtain⟨db,ap⟩:=fD (de==0);rw[<-ap];have aM:=ah ap;obtain⟨bad,a8⟩:=fD (!fo || !db || (m.sS != rf) || decide (N<fn));have V:=ah a8;clear ap a8 aL bf;go_cut [48] from 27 (λx W'=>x=.bool bad/\w2 W');case' first=>
  rcases fo with _ |_;focus(obtain rfl:bad=true:=V.out)
  rotate_left;focus(rcases db with _ |_;(focus(obtain rfl:bad=true:=V.out));rotate_left;focus(rcases hor:m.sS != rf with _ |_;(.by_cases hz:N<fn;(focus((have e5:decide (N<fn)=true:=by simpa using hz);obtain rfl:bad=true:=by rw[V.out,hor,e5];rfl));rotate_left;(focus((have e5:decide (N<fn)=false:=by simpa using hz);obtain rfl:bad=false:=by rw[V.out,hor,e5];rfl));all_goals(refine ara (by kernel_rfl) ?_;(repeat(first|(apply gX.want rfl;(.intro w' J K Q' hK;have an:=(a5.out.grow J).blk.cell 44;rw[a7]at an;have bq:=Lm _ (ac.trans (J.mono ac.size));go_wp2_with(fail);first|exact aH _ _);(.simp only[aP,ay,aA,aB];rfl))));refine gX.nil ?_;intro w7 J;go_wp2_with fail;go_meet;exact⟨rfl,J⟩));focus(obtain rfl:bad=true:=by rw[V.out,hor];rfl)))
 rotate_left 3;case rest=>
  obtain⟨rfl,bb⟩:=hcut;have ax:W wc:=am.trans (bb.mono am.size);have M:=h.grow ax;have HS:=ah M;have ai:Hid (bad=true->Bo t s.plain m=(s.plain,1)):=ah (by intro H;rw[V.out]at H;cases hf:fx with|none=>exact aeN (by rw[hf]at Rk;exact Rk.out.symm)|some f=>rw[hf]at Rk ae Y4;rw[show fo=true from Y4.out]at H;refine ahf (f:=f) Rk.out.symm ?_;rw[<-aR.out,<-ak.out];rw[aM.out,show fn=f from ae.out]at H;simp at H;rcases H with (H |H) |H;(.exact .inl H);(.exact .inr (.inl (by rw[show s.plain.x.ma.ref=s.x.ma.ref from rfl,<-a4.out];exact H)));.exact .inr (.inr H));have al:Hid (bad=false->Bo t s.plain m=(if(nN s.x.ma N).fP.length=0 then(s.plain.kP (nN s.x.ma N)).rQ (pJ (s.plain.kP (nN s.x.ma N)).x) else s.plain.kP (nN s.x.ma N),0)):=ah (by
   intro H;rw[V.out]at H;cases hf:fx with
   |none=>rw[hf]at Y4;rw[show fo=false from Y4.out]at H;cases H
   |some f=>rw[hf]at Rk ae Y4;rw[ak.out];refine aeO (f:=f) Rk.out.symm ?_;rw[<-aR.out,<-ak.out];rw[show fo=true from Y4.out,aM.out,show fn=f from ae.out]at H;simp at H;rintro (q |q |q);(.exact q H.1.1);(.exact q (by rw[show s.plain.x.ma.ref=s.x.ma.ref from rfl,<-a4.out];exact H.1.2));.omega)
  clear V bb;cases bad with
  |false=>have aa:Hid (R=(if(nN s.x.ma N).fP.length=0 then(s.plain.kP (nN s.x.ma N)).rQ (pJ (s.plain.kP (nN s.x.ma N)).x) else s.plain.kP (nN s.x.ma N),0)):=ah (by rw[HR.out];exact al.out rfl);clear ai al;have a9:=aiu M.tr.is.ma N;have U:iw g s s W wc:=iw.of_below ax;have O:=M.own;(go_upto_region 6 with(first|(with_reducible refine qO O 44 (nO s.x.ma s.m.v) (zl _ _ _) ?_ _ _ rfl rfl _ dA rfl (lU _ _) ?_;(.first|(simp[aF,ψ];done)))|((with_reducible refine a9.mono ?_);rintro e fU⟨Y,rfl,az,fJ⟩;replace M:=M.grow fJ;clear O;have O:=M.own;replace U:=U.trans (iw.of_below fJ))|(with_reducible refine ni 44 (nO (nN s.x.ma N) Y) O rfl _ _ _ rfl rfl rfl (lU _ _) (QC _ _ _ _ _) (BF _ _) ?_;intro wR kN rW ba;rw[ad8]at kN;obtain⟨bd,vH⟩:=M.aeJ kN rW ba az HS.out.hi;replace U:=iw.trans U vH;clear O;replace M:=bd;clear bd;have O:=M.own)));obtain⟨ms,bc⟩:=fD (nN s.x.ma N);rw[<-bc]at M U O az aa;have bo:=(M.blk.cell 47).trans (apD _ _ _ _ _);obtain⟨n2,aD⟩:=fD Y.n2;rw[<-aD]at bo;have a1:Hid (n2=ms.fP.length):=ah (by rw[aD];exact az.e2.symm);clear bc aD a9 kN rW ba vH;cases n2 with|zero=>have Dp:Hid (R=((s.plain.kP ms).rQ (pJ (s.plain.kP ms).x),0)):=ah (by rw[aa.out,Υ a1.out.symm]);clear aa;go_wp2_with(first|(with_reducible refine qO O 4 (jf (s.kP ms Y).x (s.kP ms Y).m) (oU _ _ _) rfl _ _ rfl rfl _ bg rfl (iF _ _) ?_)|((with_reducible refine(Hl (s.kP ms Y).x (s.kP ms Y).m _).mono ?_);rintro e fU⟨rfl,fJ⟩;replace M:=M.grow fJ;clear O;have O:=M.own;replace U:=U.trans (iw.of_below fJ))|(with_reducible refine ni 4 (jf (pJ (s.kP ms Y).x) (Bz (s.kP ms Y).m)) O rfl _ _ _ rfl rfl rfl (iF _ _) (QD _ _ _ _ _) (lM _ _) ?_;intro bw a6 bh bi;rw[ad9]at a6;obtain⟨bj,bk⟩:=M.drop a6 bh bi;replace U:=U.trans bk));go_ret;rw[Dp.out];exact⟨rfl,_,bj,U,rfl⟩|succ k=>have Dp:Hid (R=(s.plain.kP ms,0)):=ah (by rw[aa.out,Ξ (by rw[<-a1.out];exact Nat.succ_ne_zero k)]);(have e7:((k:Int)+1==0)=false:=by simp;omega);clear aa;go_wp2_with fail;go_ret;rw[Dp.out];exact⟨rfl,_,M,U,rfl⟩
  |true=>have aa:Hid (R=(s.plain,1)):=ah (by rw[HR.out];exact ai.out rfl);clear ai al;go_wp2_with fail;go_ret;rw[aa.out];exact iK.same h ax rfl
 all_goals(refine ara (by kernel_rfl) ?_;(repeat(first|(apply gX.want rfl;(.intro w' J K Q' hK;have an:=(a5.out.grow J).blk.cell 44;rw[a7]at an;have bq:=Lm _ (ac.trans (J.mono ac.size));go_wp2_with(fail);first|exact aH _ _);(.simp only[aP,ay,aA,aB];rfl))|(apply gX.skip rfl;.simp only[aP,ay,aA,aB];rfl)));refine gX.nil ?_;intro w7 J;go_wp2_with fail;go_meet;exact⟨rfl,J⟩)
section
section
variable {P:χ} {o:ο} {a:Act} {w W:ω} {Q:Exit->Act->ω->Prop} {K:Act->ω->Prop}
theorem XQ{L:List Bk}{g:Nat}{t:τ}{old:Array Θ}(i:Nat)(cells:Array Θ)(H:Own w W ((g,t,old)::L))(ty:τ)(x y:κ)(O:o.op=.store ty x y)(U:a.eval x=.pointer (some ⟨g,i,none⟩))(V:a.eval y=cells)(hi:(P.info? ty).map (·.size)=some cells.size)(ac:i+cells.size<=old.size)(J:cells.all (·.oneCell')=true)(h: ∀W':ω,Own w W' ((g,t,arh old i cells.toList)::L)->W'.heap.size=W.heap.size->(∀k,k≠g->W'.heap[k]? =W.heap[k]?)->K (a.put o.dst υ) W'):o.wp P a W K Q:=by
 have hB:=H.b0;obtain⟨s1,s2,Y,Z,s5⟩:=jX g cells.toList i W;have aa:w.heap.size<=g:=Own.lo (L1:= []) H;have M:w (W.setCells g i cells.toList):=⟨Y.trans H.below.os,Z.trans H.below.tape,s5.trans H.below.output,by rw[s1];exact H.below.size,λk N=>(s2 k (by omega)).trans (H.below.block k N)⟩;refine wp_store_mid ty x y O g i cells U V ?_ hi J (h _ (Own.with (L1:= []) H M (fK.yE cells.toList i old W hB) s2) s1 s2);intro j hj;have hc:W.cell? ⟨g,i+j,none⟩=some (old[i+j]'(by omega)):=by rw[hB.cell];simp
 exact⟨by rw[hc];rfl,hB.frozen _⟩
end
theorem aaX{t:Tp}{ref:Int}{rev:Bool}{ps:List Pk}{n:Ma}(h:ql t ref rev ps=.ok n):rX t n=true:=by
 have J: ∀ {ss gap L},UF t ref rev ss gap L=.ok n->rX t n=true:=by
  intro ss gap L h;cases L with
  |error e=>cases h
  |ok path=>unfold UF at h;simp only at h;split at h;(.rename_i hm;cases h;exact hm);.cases h
 have M: ∀ {L S},Y1 t ref rev L S=.ok n->rX t n=true:=by
  intro L S h;cases S with
  |error e=>cases h
  |ok x=>exact J h
 unfold ql at h;split at h;.cases h
 cases H:oz t ref with
 |none=>rw[H]at h;cases h
 |some b=>
  rw[H]at h;cases ps with
  |nil=>cases h
  |cons p r=>simp only at h;split at h;(.cases h);.exact M h
theorem Lp{t:Tp}{m:Ma}(h:rX t m=true):m.fP≠ []:=by unfold rX at h;simp only[bM,decide_eq_true_eq]at h;intro e;have:=h.1.1.1.1.1.2;rw[e]at this;simp at this
def XR{t:Tp}{x:Tr}{f:Int}(h:jR t x=some f):rX t x.ma=true:=by
 unfold jR at h;split at h;.rename_i hm;have:=hm.1;unfold wY at this;rw[hm.2]at this;simp only[bM,if_true]at this;exact this.2
 .cases h
def XT{t:Tp}{c:Cp}{m:Ms}(h:jR t c.x=none):oW t c m=(c,false):=by unfold oW;rw[h]
def aaY{t:Tp}{c:Cp}{m:Ms}{f:Int}(h:jR t c.x=some f)(H:m.sS≠c.x.ma.ref):oW t c m=(c,false):=by unfold oW;rw[h];exact Υ H
def aaZ{t:Tp}{c:Cp}{m:Ms}{f er:Int}(h:jR t c.x=some f)(H:m.sS=c.x.ma.ref)(J:ql t m.sS c.x.ma.rev m.p=.error er):oW t c m=(c,false):=by unfold oW;rw[h];simp only;rw[Ξ (λq=>q H),J]
def U1{t:Tp}{c:Cp}{m:Ms}{f:Int}{n:Ma}(h:jR t c.x=some f)(H:m.sS=c.x.ma.ref)(J:ql t m.sS c.x.ma.rev m.p=.ok n):oW t c m=if Cc c.x.ma.path n.path=false\/Hf c.x.ma<Hf n\/Hf n<wrap64 (f+c.x.rl.wI) then(c,false) else(c.kP (nN c.x.ma (Hf n)),true):=by unfold oW;rw[h];simp only;rw[Ξ (λq=>q H),J]
def yx (w0:ω) (Bq g:Nat) (tm:jl) (now:Int) (s:Cs) (W:ω) (R:Cp × Bool) (e:ε) (W':ω):Prop:=e=.returned (.bool R.2)/\pY w0 Bq g tm now s W R.1 W'
def yx.same{w0 W W':ω}{Bq g:Nat}{tm:jl}{now:Int}{s:Cs}{b:Bool}{e:ε}(h:iJ w0 Bq g tm now s W)(H:W W')(J:e=.returned b):yx w0 Bq g tm now s W (s.plain,b) e W':=⟨J,pY.same h H⟩
theorem aa0{w0 W:World}{Bq g:Nat}{t:Tp}{tm:jl}{now:Int}{s:Cs}(U0:jE w0 t tm)(hT:Tab w0)(h:iJ w0 Bq g tm now s W)(m:Ms)(a:Vx)(Bm:Nat)(hm:uP W Bm m a)(cE: ∀p∈m.p,∀x∈p.v,0<=x/\x<=4294967295):Calls aj 174 #[.pointer (some ⟨g,0,none⟩),.agg (oC m a)] W (yx w0 Bq g tm now s W (oW t s.plain m)):=by
 obtain⟨R,hR⟩:=fD (oW t s.plain m);rw[<-hR];have HR:=ah hR;have hO:Own W _ [_]:=Own.jD W 196 (oC m a);obtain⟨W1,aL⟩:=fD (W.alloc (.cells (oC m a) 196));have aR:W W1:=by rw[aL];exact hO.below
 rw[<-aL]at hO;have H1:=ah (h.grow aR);obtain⟨np,bA⟩:=fD m.p.length;have Lm: ∀W',W1 W'-> ∀i,W'.cell? ⟨W,i,none⟩=(#[.int .i64 m.id,.int .i64 m.t,.int .i64 m.ack,.int .i64 m.sS,.slice a.Av m.v.length a.cv,.slice a.Ap np a.cp]:Array Value)[i]? :=λW' O i=>((hO.b0.below O hO.b0.lt).cell i).trans (by rw[bA];rfl);have RS:=ah bA;obtain⟨fx,bu⟩:=fD (jR t s.x);have Rk:=ah bu;have a5:=λX (hX:W1 X)=>Bj (((U0.below h.below).below aR).below hX) s.x s.m ((H1.out.grow hX).tr.is);rw[<-bu,OE]at a5;obtain⟨fn,bo⟩:=fD (fx.getD 0);obtain⟨fo,bq⟩:=fD fx.isSome;rw[<-bo,<-bq]at a5;have az:=ah bo;have Y4:=ah bq;obtain⟨rf,bE⟩:=fD s.x.ma.ref;have bb:(s.cells tm now)[44]? =some (.int .i64 rf):=by rw[bE];rfl
 have cd:=ah bE;have ch:(s.cells tm now)[45]? =some (.bool s.x.ma.rev):=rfl;clear hR bu bo bq bE bA;go_enter func174,ntmps174;go_upto_region 1 with fail;rw[<-aL];clear aL;refine ara (by kernel_rfl) ?_
 repeat(first
    |(refine gX.part (a':=?_) (λ_ H=>(H1.out.grow H).blk) 0 (tm.cells) (sW _ _ _) rfl _ _ rfl rfl _ dB rfl (by kernel_rfl) ?_ ?_;rotate_left 1;·(simp only[aP,ay,aA,aB];rfl)) |(refine gX.part (a':=?_) (λ_ H=>(H1.out.grow H).blk) 4 (jf s.x s.m) (oU _ _ _) rfl _ _ rfl rfl _ bg rfl (iF _ _) ?_ ?_;rotate_left 1;·(simp only[aP,ay,aA,aB];rfl))
    |(apply gX.want rfl;(·intro w' H K Q' M;skip;go_wp2_with(((with_reducible refine(a5 _ H).mono ?_);rintro e w3⟨rfl,U⟩));first|exact aH _ _|exact U);(·simp only[aP,ay,aA,aB];rfl))
    |(apply gX.skip rfl;·simp only[aP,ay,aA,aB];rfl))
 refine gX.nil ?_;intro w7 H;clear a5;have af:=H;have bh:W w7:=aR.trans (af.mono aR.size);have ba:=ah (h.grow bh);obtain⟨bad,au⟩:=fD (!fo || (m.sS != rf));have HB:=ah au;clear au;go_upto_region 2 with fail;go_cut [33] from 21 (λx W'=>x=.bool bad/\w7 W');case first=>
  cases fo with
  |false=>obtain rfl:bad=true:=HB.out;refine ara (by kernel_rfl) ?_;(repeat(first|(fail)|(apply gX.want rfl;(·intro w' H K Q' M;have Z:=(ba.out.grow H).blk.cell 44;rw[bb]at Z;have bm:=Lm _ (af.trans (H.mono af.size));go_wp2_with(fail);first|exact aH _ _|exact U);(·simp only[aP,ay,aA,aB];rfl))|(apply gX.skip rfl;·simp only[aP,ay,aA,aB];rfl)));refine gX.nil ?_;intro w7 H;go_wp2_with fail;go_meet;exact⟨rfl,H⟩
  |true=>cases cw:m.sS != rf with|false=>(obtain rfl:bad=false:=by rw[HB.out,cw];rfl);refine ara (by kernel_rfl) ?_;(repeat(first|(fail)|(apply gX.want rfl;(·intro w' H K Q' M;have Z:=(ba.out.grow H).blk.cell 44;rw[bb]at Z;have bm:=Lm _ (af.trans (H.mono af.size));go_wp2_with(fail);first|exact aH _ _|exact U);(·simp only[aP,ay,aA,aB];rfl))|(apply gX.skip rfl;·simp only[aP,ay,aA,aB];rfl)));refine gX.nil ?_;intro w7 H;go_wp2_with fail;go_meet;exact⟨rfl,H⟩|true=>(obtain rfl:bad=true:=by rw[HB.out,cw];rfl);refine ara (by kernel_rfl) ?_;(repeat(first|(fail)|(apply gX.want rfl;(·intro w' H K Q' M;have Z:=(ba.out.grow H).blk.cell 44;rw[bb]at Z;have bm:=Lm _ (af.trans (H.mono af.size));go_wp2_with(fail);first|exact aH _ _|exact U);(·simp only[aP,ay,aA,aB];rfl))|(apply gX.skip rfl;·simp only[aP,ay,aA,aB];rfl)));refine gX.nil ?_;intro w7 H;go_wp2_with fail;go_meet;exact⟨rfl,H⟩
 case rest=>
  obtain⟨rfl,bw⟩:=hcut;have ct:=af.trans (bw.mono af.size);have ap:W wc:=bh.trans (bw.mono bh.size);have hs:=h.grow ap;have HS:=ah hs;clear hs bw;cases bad with
  |false=>
   obtain⟨ZY,a8⟩:Hid (jR t s.x=some fn)/\Hid (m.sS=s.x.ma.ref):=by
    have O:=HB.out;cases hf:fx with
    |none=>rw[hf]at Y4;rw[show fo=false from Y4.out]at O;cases O
    |some f=>rw[hf]at Rk az Y4;rw[show fo=true from Y4.out]at O;simp at O;exact⟨ah (by rw[show fn=f from az.out];exact Rk.out.symm),ah (by rw[<-cd.out];exact O)⟩
   clear HB Y4 az Rk;go_upto_region 4 with fail;obtain⟨rv,bN⟩:=fD s.x.ma.rev;have a9:=ah bN;rw[<-bN]at ch;obtain⟨N,bL⟩:=fD (rdM (ql t m.sS rv m.p));obtain⟨re,bB⟩:=fD (rdE (ql t m.sS rv m.p));obtain⟨C,bf⟩: ∃C:Prop,C=(re=0->ql t m.sS rv m.p=.ok N):=⟨_,rfl⟩;(have cy: ∀W',wc W'->Calls aj 221 #[.agg tm.cells,.int .i64 m.sS,.bool rv,.slice a.Ap np a.cp] W' λe w'=>W' w'/\ ∃v,e=.returned (.tuple #[.agg (nO N v),.int .i64 re])/\lD C w' W' N v:=by intro W' O;have aE:W W':=ap.trans (O.mono ap.size);obtain⟨xs,cG,cF⟩:=hm.p;have:=aee ((U0.below h.below).below aE) ((hT.below h.below).below aE) m.sS rv a.Ap a.cp m.p xs (cG.rows.below aE) Bm (rH.ji cF (jV.of_below aE (λ_=>False)) (λ_ H=>H.elim)) hm.pl hm.pv cE;rw[<-RS.out]at this;refine this.mono (λe w' h=>?_);rw[bf,bL,bB];exact h.one);have cB:=ah bL;have cA:=ah bB;have bS:=ah bf;have cf: ∀W',wc W'-> ∀i,W'.cell? ⟨W,i,none⟩=(#[.int .i64 m.id,.int .i64 m.t,.int .i64 m.ack,.int .i64 m.sS,.slice a.Av m.v.length a.cv,.slice a.Ap np a.cp]:Array Value)[i]? :=λW' O=>Lm W' (ct.trans (O.mono ct.size));clear bL bB bf Lm bN H af;apply gu (Below wc) (λW=>aq3 gY 1) (λ_ _ _ h1 h2=>h1.trans h2) (sD wc 19 42 19 42) (λ_ _ _ h=>h.1) (λ_ _=>fZ _ _ _ _ _ _ _) (λ_ _=>True) (λ_=>trivial) (λ_ _ _ _ _ _ _=>trivial);(case lX=>intro u;simp only[bV,aq9,aP,ay,aA,aB,aT,aJ];with_reducible rfl);(case hm=>kernel_rfl);(case hB=>kernel_rfl);(case hA=>kernel_rfl);(case hap=>kernel_rfl);(iterate 3(apply fM.is;·(intro u w' H aa J;simp[fO,aC,gI,Is]at J;refine fC ?_ ?_;(·first|rfl|(simp[aF,yielded,J];done));intro K M;skip;go_wp2_with(fail);(try simp only[J]at M);refine M _ _ ?_ rfl;first|exact fZ _ _ _ _ _ _ _|exact iL H.size U (by decide) (by decide))));refine fM.is (c:=.agg (tm.cells)) ?_ ?_;(·(intro u w' H aa J;simp[fO,aC,gI,Is]at J;refine fC (by first |rfl |simp[aF,yielded]) ?_;intro K M;have hC:=(HS.out.grow H).own;exact wC hC 0 _ (sW _ _ _) _ _ rfl (by rw[<-J];rfl) _ dB rfl (by kernel_rfl) (M _ _ (fZ _ _ _ _ _ _ _) rfl)));(iterate 10(first|(apply fM.is;·(intro u w' H aa J;simp[fO,aC,gI,Is]at J;refine fC ?_ ?_;(·first|rfl|(simp[aF,yielded,J];done));intro K M;have Z:=(HS.out.grow H).blk.cell 45;rw[ch]at Z;go_wp2_with(fail);(try simp only[J]at M);refine M _ _ ?_ rfl;first|exact fZ _ _ _ _ _ _ _|exact iL H.size U (by decide) (by decide)))|(apply fM.is;·(intro u w' H aa J;simp[fO,aC,gI,Is]at J;refine fC ?_ ?_;(·first|rfl|(simp[aF,yielded,J];done));intro K M;have bm:=cf _ H;go_wp2_with(fail);(try simp only[J]at M);refine M _ _ ?_ rfl;first|exact fZ _ _ _ _ _ _ _|exact iL H.size U (by decide) (by decide)))|(apply fM.is;·(intro u w' H aa J;simp[fO,aC,gI,Is]at J;refine fC ?_ ?_;(·first|rfl|(simp[aF,yielded,J];done));intro K M;skip;go_wp2_with(fail);(try simp only[J]at M);refine M _ _ ?_ rfl;first|exact fZ _ _ _ _ _ _ _|exact iL H.size U (by decide) (by decide)))));refine fM.one (aeH C wc N re) ?_ ?_;(·(intro u w' H aa J;simp only[gQ]at J;have q3:=J ⟨3,.data⟩ (by simp) rfl _ rfl;have q5:=J ⟨5,.data⟩ (by simp) rfl _ rfl;have q6:=J ⟨11,.data⟩ (by simp) rfl _ rfl;have q8:=J ⟨13,.data⟩ (by simp) rfl _ rfl;simp only[gI,Is]at q3 q5 q6 q8;clear J;refine fC (by first |rfl |simp[aF,yielded]) ?_;intro K M;skip;go_wp2_with(((with_reducible refine(cy _ H).mono ?_);rintro e w3⟨U,V,rfl,ag⟩));(try simp only[q3,q5,q6,q8]at M);exact M _ _ (iL H.size U (by decide) (by decide)) ⟨V,rfl,ag.base H.size⟩));refine fM.one (aeH C wc N re) ?_ ?_;(·(intro u w' H aa J;simp only[gQ]at J;have q1:=J ⟨14,.data⟩ (by simp) rfl _ rfl;obtain⟨V,q1,ag⟩: ∃V,u 14=.tuple #[.agg (nO N V),.int .i64 re]/\lD C w' wc N V:=q1;clear J;refine fC (by first |rfl |simp[aF,yielded]) ?_;intro K M;go_wp2_with fail;(try simp only[q1]at M);exact M _ _ (fZ _ _ _ _ _ _ _) ⟨V,rfl,ag⟩));refine fM.one (ahd C wc N) ?_ ?_;(·(intro u w' H aa J;simp only[gQ]at J;have q1:=J ⟨15,.data⟩ (by simp) rfl _ rfl;obtain⟨V,q1,ag⟩: ∃V,u 15=.tuple #[.agg (nO N V),.int .i64 re]/\lD C w' wc N V:=q1;clear J;refine fC (by first |rfl |simp[aF,yielded]) ?_;intro K M;go_wp2_with fail;(try simp only[q1]at M);exact M _ _ (fZ _ _ _ _ _ _ _) ⟨V,rfl,ag⟩));refine fM.one (Is (.int .i64 re)) ?_ ?_;(·(intro u w' H aa J;simp only[gQ]at J;have q1:=J ⟨15,.data⟩ (by simp) rfl _ rfl;obtain⟨V,q1,ag⟩: ∃V,u 15=.tuple #[.agg (nO N V),.int .i64 re]/\lD C w' wc N V:=q1;clear J;refine fC (by first |rfl |simp[aF,yielded]) ?_;intro K M;go_wp2_with fail;(try simp only[q1]at M);exact M _ _ (fZ _ _ _ _ _ _ _) rfl));refine fM.one (pV wc 42 5) ?_ ?_;(·(intro u w' H aa J;clear J;refine fC (by first |rfl |simp[aF,yielded]) ?_;intro K M;go_wp2_with fail;exact M _ _ (iL H.size jm (by decide) (by decide)) ⟨w',_,rfl,H.size,fK.new _ _ _,rfl⟩));refine fM.word (aeI C wc 18 N) ?_ ?_;(·(intro u w' H aa J;simp only[gQ]at J;have q1:=J ⟨18,.data⟩ (by simp) rfl _ rfl;have q2:=J ⟨16,.data⟩ (by simp) rfl _ rfl;obtain⟨V,q2,ag⟩: ∃V,u 16=.agg (nO N V)/\lD C w' wc N V:=q2;obtain⟨g5,cs,cx,hg,a1,cz⟩:pV wc 42 5 (u 18) w':=q1;clear J;refine jF (by first |rfl |simp[aF,yielded]) ?_;intro K M;have jL: ∀k,k≠g5->(w'.setRow g5 (nO N V)).heap[k]? =w'.heap[k]? :=λk H=>setRow_other w' g5 k _ H;have hT:arE 42 w' (w'.setRow g5 (nO N V)):=.inr ⟨g5,cs,nO N V,a1,a1.row _,(UY _ _).trans cz.symm,arq _ _ _,jL⟩;exact wp_store_row 42 _ _ rfl g5 (nO N V) (by rw[<-cx];rfl) (by rw[<-q2];rfl) 42 cs a1 (lU _ _) (cz.trans (UY _ _).symm) (BF _ _) (M undef _ ⟨jk gY hg _,λh _=>absurd rfl h,λ_=>hT,λ_=>hT⟩ ⟨g5,V,by rw[jH u undef (by decide)];exact cx,hg,a1.row _,ag.turned hT⟩)));refine fM.last (qm ?_) ?_;(·simp only[gQ];(repeat(refine⟨?_,?_⟩;·first|exact mQ _|exact BG|exact BH|exact qP|exact zq (by kernel_rfl)));exact trivial);intro u w1 H _ J;simp only[gQ]at J;obtain⟨g5,vm,e5,cH,Y,bx⟩:=J 19 _ rfl;have bd:=J 17 _ rfl;simp only[gI,Is]at bd;clear J;refine⟨by first |rfl |simp[aF,yielded],?_⟩;intro K M;simp only[e5,bd];clear e5 bd;have Xg:W w1:=ap.trans (H.mono ap.size);have cc:Hid (re=0->ql t m.sS rv m.p=.ok N):=ah (by have:=bx.2;rwa [bS.out]at this);have ad:=ah (h.grow Xg);clear bS cy cf;obtain⟨cg,bi⟩:=fD (Cc s.x.ma.path N.path);obtain⟨fa,cn⟩:=fD (Hf N);obtain⟨fb,bn⟩:=fD (Hf s.x.ma);obtain⟨br,bj⟩:=fD s.x.rl.wI;have ar:(s.cells tm now)[46]? =some (.slice s.m.v.A1 s.m.v.n1 s.m.v.c1):=rfl;(have aq:(s.cells tm now)[12]? =some (.int .i64 br):=by rw[bj];rfl);have av:(nO N vm)[2]? =some (.slice vm.A1 vm.n1 vm.c1):=rfl;obtain⟨bad,au⟩:=fD ((re != 0) || !cg || decide (fb<fa) || decide (fa<wrap64 (fn+br)));have HB:=ah au;have Ik:=ad.out.tr.is.ma;have Lr:=bx.1.is_;have am:=λX (hX:w1 X)=>aeL s.m.v.A1 s.m.v.n1 s.m.v.c1 s.x.ma.path vm.A1 vm.n1 vm.c1 N.path X (Ik.path.below hX) Ik.e1 Ik.q1 (Lr.path.below hX) Lr.e1 (aG Ik.l1 (by decide)) (aG Lr.l1 (by decide));rw[<-bi]at am;have al:=λX (hX:w1 X)=>aeK s.x.ma s.m.v X (Ik.below hX) (Lp (XR ZY.out));rw[<-bn]at al;have bX:Hid (re=0->N.fP≠ []):=ah (λq=>Lp (aaX (cc.out q)));have bO:=ah bi;have ax:=ah cn;have ca:=ah bn;have bR:=ah bj;clear bi cn bn bj au;go_upto_region 5 with fail;go_cut [89] from 52 (λx W'=>x=.bool bad/\w1 W');case first=>
    by_cases h0:re=0
    ·(have e0:(re != 0)=false:=by simpa using h0);have ae:=λX (hX:w1 X)=>aeK N vm X (Lr.below hX) (bX.out h0);rw[<-ax.out]at ae;clear h0 Ik Lr;cases cg with
     |false=>
      (obtain rfl:bad=true:=by rw[HB.out,e0];rfl);refine ara (by kernel_rfl) ?_
      repeat(first
         |(refine gX.part (a':=?_) (λ_ H=>(ad.out.grow H).blk) 44 (nO s.x.ma s.m.v) (zl _ _ _) rfl _ _ rfl rfl _ dA rfl (lU _ _) ?_ ?_;rotate_left 1;·(simp only[aP,ay,aA,aB];rfl)) |(refine gX.whole (a':=?_) (λ_ H=>Y.below H Y.lt) rfl _ _ rfl rfl _ dA rfl (lU _ _) ?_ ?_;rotate_left 1;·(simp only[aP,ay,aA,aB];rfl))
         |(apply gX.want rfl;(·intro w' H K Q' M;have ak:=Y.below H Y.lt;have a4:=(ak.cell 2).trans av;have ac:=(ad.out.grow H).blk;have Z:=ac.cell 46;rw[ar]at Z;have ai:=ac.cell 12;rw[aq]at ai;go_wp2_with((first|((with_reducible first|refine(am _ H).mono ?_|refine(ae _ H).mono ?_|refine(al _ H).mono ?_);rintro e w3⟨rfl,U⟩)));first|exact aH _ _|exact U);(·simp only[aP,ay,aA,aB];rfl))
         |(apply gX.skip rfl;·simp only[aP,ay,aA,aB];rfl))
      refine gX.nil ?_;intro w7 H;go_wp2_with fail;go_meet;exact⟨rfl,H⟩
     |true=>
      by_cases h1:fb<fa
      ·(have e1:decide (fb<fa)=true:=by simpa using h1);(obtain rfl:bad=true:=by rw[HB.out,e0,e1];rfl);refine ara (by kernel_rfl) ?_
       repeat(first
          |(refine gX.part (a':=?_) (λ_ H=>(ad.out.grow H).blk) 44 (nO s.x.ma s.m.v) (zl _ _ _) rfl _ _ rfl rfl _ dA rfl (lU _ _) ?_ ?_;rotate_left 1;·(simp only[aP,ay,aA,aB];rfl)) |(refine gX.whole (a':=?_) (λ_ H=>Y.below H Y.lt) rfl _ _ rfl rfl _ dA rfl (lU _ _) ?_ ?_;rotate_left 1;·(simp only[aP,ay,aA,aB];rfl))
          |(apply gX.want rfl;(·intro w' H K Q' M;have ak:=Y.below H Y.lt;have a4:=(ak.cell 2).trans av;have ac:=(ad.out.grow H).blk;have Z:=ac.cell 46;rw[ar]at Z;have ai:=ac.cell 12;rw[aq]at ai;go_wp2_with((first|((with_reducible first|refine(am _ H).mono ?_|refine(ae _ H).mono ?_|refine(al _ H).mono ?_);rintro e w3⟨rfl,U⟩)));first|exact aH _ _|exact U);(·simp only[aP,ay,aA,aB];rfl))
          |(apply gX.skip rfl;·simp only[aP,ay,aA,aB];rfl))
       refine gX.nil ?_;intro w7 H;go_wp2_with fail;go_meet;exact⟨rfl,H⟩
      ·(have e1:decide (fb<fa)=false:=by simpa using h1);replace h1:=Int.not_lt.1 h1;by_cases h2:fa<wrap64 (fn+br)
       ·(have e2:decide (fa<wrap64 (fn+br))=true:=by simpa using h2);(obtain rfl:bad=true:=by rw[HB.out,e0,e1,e2];rfl);refine ara (by kernel_rfl) ?_
        repeat(first
           |(refine gX.part (a':=?_) (λ_ H=>(ad.out.grow H).blk) 44 (nO s.x.ma s.m.v) (zl _ _ _) rfl _ _ rfl rfl _ dA rfl (lU _ _) ?_ ?_;rotate_left 1;·(simp only[aP,ay,aA,aB];rfl)) |(refine gX.whole (a':=?_) (λ_ H=>Y.below H Y.lt) rfl _ _ rfl rfl _ dA rfl (lU _ _) ?_ ?_;rotate_left 1;·(simp only[aP,ay,aA,aB];rfl))
           |(apply gX.want rfl;(·intro w' H K Q' M;have ak:=Y.below H Y.lt;have a4:=(ak.cell 2).trans av;have ac:=(ad.out.grow H).blk;have Z:=ac.cell 46;rw[ar]at Z;have ai:=ac.cell 12;rw[aq]at ai;go_wp2_with((first|((with_reducible first|refine(am _ H).mono ?_|refine(ae _ H).mono ?_|refine(al _ H).mono ?_);rintro e w3⟨rfl,U⟩)));first|exact aH _ _|exact U);(·simp only[aP,ay,aA,aB];rfl))
           |(apply gX.skip rfl;·simp only[aP,ay,aA,aB];rfl))
        refine gX.nil ?_;intro w7 H;go_wp2_with fail;go_meet;exact⟨rfl,H⟩
       ·(have e2:decide (fa<wrap64 (fn+br))=false:=by simpa using h2);replace h2:=Int.not_lt.1 h2;(obtain rfl:bad=false:=by rw[HB.out,e0,e1,e2];rfl);refine ara (by kernel_rfl) ?_
        repeat(first
           |(refine gX.part (a':=?_) (λ_ H=>(ad.out.grow H).blk) 44 (nO s.x.ma s.m.v) (zl _ _ _) rfl _ _ rfl rfl _ dA rfl (lU _ _) ?_ ?_;rotate_left 1;·(simp only[aP,ay,aA,aB];rfl)) |(refine gX.whole (a':=?_) (λ_ H=>Y.below H Y.lt) rfl _ _ rfl rfl _ dA rfl (lU _ _) ?_ ?_;rotate_left 1;·(simp only[aP,ay,aA,aB];rfl))
           |(apply gX.want rfl;(·intro w' H K Q' M;have ak:=Y.below H Y.lt;have a4:=(ak.cell 2).trans av;have ac:=(ad.out.grow H).blk;have Z:=ac.cell 46;rw[ar]at Z;have ai:=ac.cell 12;rw[aq]at ai;go_wp2_with((first|((with_reducible first|refine(am _ H).mono ?_|refine(ae _ H).mono ?_|refine(al _ H).mono ?_);rintro e w3⟨rfl,U⟩)));first|exact aH _ _|exact U);(·simp only[aP,ay,aA,aB];rfl))
           |(apply gX.skip rfl;·simp only[aP,ay,aA,aB];rfl))
        refine gX.nil ?_;intro w7 H;go_wp2_with fail;go_meet;exact⟨rfl,H⟩
    ·(have e0:(re != 0)=true:=by simpa using h0);(obtain rfl:bad=true:=by rw[HB.out,e0];rfl);have ae:=al;clear h0 Ik Lr;refine ara (by kernel_rfl) ?_
     repeat(first
        |(refine gX.part (a':=?_) (λ_ H=>(ad.out.grow H).blk) 44 (nO s.x.ma s.m.v) (zl _ _ _) rfl _ _ rfl rfl _ dA rfl (lU _ _) ?_ ?_;rotate_left 1;·(simp only[aP,ay,aA,aB];rfl)) |(refine gX.whole (a':=?_) (λ_ H=>Y.below H Y.lt) rfl _ _ rfl rfl _ dA rfl (lU _ _) ?_ ?_;rotate_left 1;·(simp only[aP,ay,aA,aB];rfl))
        |(apply gX.want rfl;(·intro w' H K Q' M;have ak:=Y.below H Y.lt;have a4:=(ak.cell 2).trans av;have ac:=(ad.out.grow H).blk;have Z:=ac.cell 46;rw[ar]at Z;have ai:=ac.cell 12;rw[aq]at ai;go_wp2_with((first|((with_reducible first|refine(am _ H).mono ?_|refine(ae _ H).mono ?_|refine(al _ H).mono ?_);rintro e w3⟨rfl,U⟩)));first|exact aH _ _|exact U);(·simp only[aP,ay,aA,aB];rfl))
        |(apply gX.skip rfl;·simp only[aP,ay,aA,aB];rfl))
     refine gX.nil ?_;intro w7 H;go_wp2_with fail;go_meet;exact⟨rfl,H⟩
   case rest=>
    obtain⟨rfl,a6⟩:=hcut;have aM:W wc:=Xg.trans (a6.mono Xg.size);have aD:=ah (h.grow aM);have Xz:=Y.below a6 Y.lt;have a7:Hid (bad=true->R=(s.plain,false)):=ah (by intro O;rw[HR.out];cases hr:ql t m.sS rv m.p with|error er=>exact aaZ (c:=s.plain) ZY.out a8.out (by rw[show s.plain.x.ma.rev=s.x.ma.rev from rfl,<-a9.out];exact hr)|ok n=>have h1:=cB.out;have h2:=cA.out;rw[hr]at h1 h2;rw[U1 (c:=s.plain) ZY.out a8.out (n:=N) (by rw[show s.plain.x.ma.rev=s.x.ma.rev from rfl,<-a9.out,hr,h1];rfl)];refine if_pos ?_;rw[HB.out,show re=0 from h2]at O;rw[show s.plain.x=s.x from rfl,<-bO.out,<-ax.out,<-ca.out,<-bR.out];simp at O;rcases O with (O |O) |O;(·exact .inl O);(·exact .inr (.inl O));·exact .inr (.inr O));have aw:Hid (bad=false->re=0/\R=(s.plain.kP (nN s.x.ma fa),true)):=ah (by
     intro O;rw[HB.out]at O;simp at O;obtain⟨⟨⟨h1,h2⟩,h3⟩,h4⟩:=O;refine⟨h1,?_⟩;rw[HR.out,U1 (c:=s.plain) ZY.out a8.out (n:=N) (by rw[show s.plain.x.ma.rev=s.x.ma.rev from rfl,<-a9.out];exact cc.out h1)];rw[show s.plain.x=s.x from rfl,<-bO.out,<-ax.out,<-ca.out,<-bR.out,h2]
     exact if_neg (by rintro (q | q | q); · cases q
                      ·
                        omega
                      ·
                        omega))
    clear HB am al Ik Lr;cases bad with
    |false=>have an:Hid (R=(s.plain.kP (nN s.x.ma fa),true)):=ah (aw.out rfl).2;have ae:=λX (hX:wc X)=>aeK N vm X ((bx.1.is_.below a6).below hX) (bX.out (aw.out rfl).1);rw[<-ax.out]at ae;obtain⟨cm,ci⟩:=fD (nN s.x.ma fa);have bk:=λX (hX:wc X)=>aiu (aD.out.tr.is.ma.below hX) fa;rw[<-ci]at bk an;unfold am2 at bk;clear a7 aw ci H a6;go_upto_region 7 with fail;apply gu (Below wc) (λW=>aq3 gY 1) (λ_ _ _ h1 h2=>h1.trans h2) (sD wc 12 42 12 42) (λ_ _ _ h=>h.1) (λ_ _=>fZ _ _ _ _ _ _ _) (λ_ _=>True) (λ_=>trivial) (λ_ _ _ _ _ _ _=>trivial);(case lX=>intro u;simp only[bV,aq9,aP,ay,aA,aB,aT,aJ];with_reducible rfl);(case hm=>kernel_rfl);(case hB=>kernel_rfl);(case hA=>kernel_rfl);(case hap=>kernel_rfl);(iterate 5(apply fM.is;·(intro u w' H aa J;simp[fO,aC,gI,Is]at J;refine fC ?_ ?_;(·first|rfl|(simp[aF,yielded,J];done));intro K M;skip;go_wp2_with(fail);(try simp only[J]at M);refine M _ _ ?_ rfl;first|exact fZ _ _ _ _ _ _ _|exact iL H.size U (by decide) (by decide))));refine fM.is (c:=.agg (nO s.x.ma s.m.v)) ?_ ?_;(·(intro u w' H aa J;simp[fO,aC,gI,Is]at J;refine fC (by first |rfl |simp[aF,yielded]) ?_;intro K M;have hC:=(aD.out.grow H).own;exact wC hC 44 _ (zl _ _ _) _ _ rfl (by rw[<-J];rfl) _ dA rfl (lU _ _) (M _ _ (fZ _ _ _ _ _ _ _) rfl)));refine fM.is (c:=.agg (nO N vm)) ?_ ?_;(·(intro u w' H aa J;refine fC (by first |rfl |simp[aF,yielded]) ?_;intro K M;exact wp_load_row 42 _ rfl g5 rfl 42 _ (0,0) _ (Xz.below H Xz.lt) dA rfl (lU _ _) (M _ _ (fZ _ _ _ _ _ _ _) rfl)));apply fM.is;(·(intro u w' H aa J;simp[fO,aC,gI,Is]at J;refine fC ?_ ?_;(·first|rfl|(simp[aF,yielded,J];done));intro K M;skip;go_wp2_with(((with_reducible refine(ae _ H).mono ?_);rintro e w3⟨rfl,U⟩));(try simp only[J]at M);refine M _ _ ?_ rfl;first|exact fZ _ _ _ _ _ _ _|exact iL H.size U (by decide) (by decide)));refine fM.one (ahd True wc cm) ?_ ?_;(·(intro u w' H aa J;simp only[gQ]at J;have q5:=J ⟨5,.data⟩ (by simp) rfl _ rfl;have q7:=J ⟨7,.data⟩ (by simp) rfl _ rfl;simp only[gI,Is]at q5 q7;clear J;refine fC (by first |rfl |simp[aF,yielded]) ?_;intro K M;go_wp2_with(go_at_call 224;(with_reducible refine(bk _ H).mono ?_);rintro e w3⟨V,rfl,ag,U⟩);(try simp only[q5,q7]at M);exact M _ _ (iL H.size U (by decide) (by decide)) ⟨V,rfl,ag.base H.size,trivial⟩));(iterate 3(apply fM.is;·(intro u w' H aa J;simp[fO,aC,gI,Is]at J;refine fC ?_ ?_;(·first|rfl|(simp[aF,yielded,J];done));intro K M;skip;go_wp2_with(fail);(try simp only[J]at M);refine M _ _ ?_ rfl;first|exact fZ _ _ _ _ _ _ _|exact iL H.size U (by decide) (by decide))));refine fM.last (qm ?_) ?_;(·simp only[gQ];(repeat(refine⟨?_,?_⟩;·first|exact mQ _|exact BG|exact BH|exact qP|exact zq (by kernel_rfl)));exact trivial);intro u w1 H _ J;simp only[gQ]at J;obtain⟨vc,e8,cC,_⟩:=J 8 _ rfl;have bc:=J 11 _ rfl;simp only[gI,Is]at bc;clear J;refine⟨by first |rfl |simp[aF,yielded],?_⟩;intro K M;have hs:=aD.out.grow H;have Eo:=aM.trans (H.mono aM.size);refine XQ 44 (nO cm vc) hs.own _ _ _ rfl (by rw[<-bc];rfl) (by rw[<-e8];rfl) (lU _ _) (QC _ _ _ _ _) (BF _ _) (λwR kN rW cu=>?_);refine M _ _ ?_;rw[ad8]at kN;obtain⟨cD,vH⟩:=hs.aeJ kN rW cu cC aD.out.hi;clear kN rW cu e8 bc;go_wp2_with fail;go_ret;rw[an.out];exact⟨rfl,_,cD,(iw.of_below Eo).trans vH,rfl⟩
    |true=>have an:Hid (R=(s.plain,false)):=ah (a7.out rfl);clear a7 aw;go_wp2_with fail;go_ret;rw[an.out];exact yx.same h aM rfl
  |true=>have an:Hid (R=(s.plain,false)):=ah (by have O:=HB.out;rw[HR.out];cases hf:fx with|none=>exact XT (by rw[hf]at Rk;exact Rk.out.symm)|some f=>rw[hf]at Rk az Y4;rw[show fo=true from Y4.out]at O;refine aaY (f:=f) Rk.out.symm ?_;simp at O;rw[show s.plain.x.ma.ref=s.x.ma.ref from rfl,<-cd.out];exact O);clear HB HR;go_wp2_with fail;go_ret;rw[an.out];exact yx.same h ap rfl
end
end Go.Proofs.YthnmgjngniciaaaGreatDoor
