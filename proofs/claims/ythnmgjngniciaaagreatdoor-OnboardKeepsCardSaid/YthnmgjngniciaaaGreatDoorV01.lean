/- Parts. -/
import Derived.WalkKit
import Derived.WalkSpells
import Derived.WalkLawsBesides
import Derived.Laws.StructEq
import Derived.Below
import Derived.Laws.OwnMore
import Derived.Deep.Draws
import Derived.Laws.Rows
import Derived.ChangeKeysEq
import Derived.Deep.AppendLies
import Derived.Maps.AppendAt
import Derived.RegionTactic
import Derived.OwnWalk
import Derived.Deep.QuietTactic
import Derived.BigQuiet
import Derived.Laws.Tables
import Derived.Deep.MidRow
import Derived.Test.YthnmgjngniciaaaGreatDoorProg
import Derived.Shelf.SlicesQ.IndexFunc
import Derived.Ground.SlgfProg
import Derived.Shelf.SlicesQ.Contains
import Derived.Ground.SlgqProg
import Derived.Lib.Hide
import Derived.Shelf.SlicesE.IndexFunc
set_option linter.all false
set_option maxHeartbeats 16000000
set_option maxRecDepth 8000
open Array renaming getElem?_eq_getElem->cO,getElem?_eq_none->dI,getElem?_eq_some_iff->dM,getElem?_setIfInBounds_ne->dR
open BitVec renaming ofInt->aQ,ofNat->bT
open Bool renaming and_eq_true->bM,false_eq_true->bU
open List renaming eq_nil_of_length_eq_zero->dw,getD_eq_getElem?_getD->bH,getElem?_append_left->dP,getElem?_cons_succ->fB,getElem?_cons_zero->eP,getElem?_eq_getElem->aI,getElem?_eq_none->dQ,getElem?_eq_some_iff->aX,getElem?_map->bW,getElem?_take_of_lt->dG,length_append->bC,length_cons->bK,length_eq_zero_iff->dh,length_map->eU,map->bV,map_append->eX,mem_append->dK,mem_cons->bJ,mem_of_getElem?->bP,nil_append->aZ,not_mem_nil->dH,range->eY,setIfInBounds_toArray->ay,set_cons_succ->aB,set_cons_zero->aA,take_of_length_le->aY
open Nat renaming add_zero->bI,le_refl->aW,le_trans->aG,lt_of_lt_of_le->aU,lt_or_ge->eu,mod_eq_of_lt->dF,reduceAdd->aT,zero_add->aJ,zero_le->aV
open Option renaming getD_some->eG,map_some->eF
open Option.some renaming injEq->aO
namespace Go.Proofs.YthnmgjngniciaaaGreatDoor
open Go renaming Addr->δ,Calls->Γ,Oper->ο,Operand->κ,Program->χ,TypeId->τ,Value->Θ,World->ω,binOp->γ,bodyPost_ret->β,callFunc->ϕ,maxLen->μ,run_eql_struct->ϑ,run_equalIn_agg->ϐ,run_underlying->ν,setRow_other->ζ,undef->υ,wpList->Δ,wpList_plain->π,wp_load_row->ι,wp_store_row->η,yielded->ψ
theorem Ξ{c:Prop}{h:Decidable c}(k:¬c){a:Sort _}{t e:a}:ite c t e=e:=if_neg k
theorem Υ{c:Prop}{h:Decidable c}(k:c){a:Sort _}{t e:a}:ite c t e=t:=if_pos k
theorem ξ{a b:Sort _}{x y:a}(f:a->b)(h:x=y):f x=f y:=congrArg f h
open Go.RowKit Tryz
open Act renaming put->aP
open Addr.mk renaming injEq->cZ
open Below renaming heap_setCell->aN,refl->aH
open Lib renaming hid->ah
open Region renaming binds->aC,wanted->aF
open Result renaming andThen_ok->dO
open Tryz renaming prog->aj,underlying3->bG,underlying4->dL
open Value renaming cells->aS,oneCell'->aK
open Value.slice renaming injEq->dV
open World renaming setCell->dD
variable{fn:Func}{n:Nat}{P:χ}{a:Tmp}{w:ω}
structure gL0
def gL:gL0:=⟨⟩
instance:Coe gL0 (Array Θ):=⟨fun _=>#[.int .i64 0,.int .i64 0,.int .i64 0,.int .i64 0,.int .i64 0,.int .i64 0,.int .i64 0,.int .i64 0,.int .i64 0,.int .i64 0,.int .i64 0,.int .i64 0,.int .i64 0,.int .u32 0,.int .u32 0,.int .u32 0,.int .u32 0,.int .i64 0,.int .u32 0,.int .u32 0,.int .u32 0,.int .u32 0,.int .u32 0,.int .u32 0,.bool false,.int .u32 0,.int .u32 0,.int .u32 0,.int .i64 0,.int .i64 0,.int .i64 0,.bool false,.int .i64 0,.bool false,.int .i64 0,.int .i64 0,.bool false,.int .i64 0,.int .i64 0,.bool false,.int .i64 0,.bool false,.slice none 0 0,.slice none 0 0,.int .i64 0,.int .i64 0,.bool false,.slice none 0 0]⟩
structure gd0
def gd:gd0:=⟨⟩
instance:Coe gd0 (Array Θ):=⟨fun _=>#[.int .i64 0,.int .i64 0,.int .u32 0,.int .u32 0,.int .u32 0,.int .u32 0,.int .i64 0,.int .u32 0,.int .u32 0,.int .u32 0,.int .u32 0,.int .u32 0,.int .u32 0,.bool false,.int .u32 0,.int .u32 0]⟩
structure gi0
def gi:gi0:=⟨⟩
instance:Coe gi0 (Array Θ):=⟨fun _=>#[.int .i64 0,.int .i64 0,.int .i64 0,.int .u32 0,.int .u32 0,.slice none 0 0,.int .u64 0]⟩
structure gj0
def gj:gj0:=⟨⟩
instance:Coe gj0 (Array Θ):=⟨fun _=>#[.int .i64 0,.bool false,.slice none 0 0,.slice none 0 0,.int .i64 0]⟩
structure gk0
def gk:gk0:=⟨⟩
instance:Coe gk0 (Array Θ):=⟨fun _=>#[.int .i64 0,.int .i64 0,.int .i64 0,.int .i64 0,.slice none 0 0,.slice none 0 0]⟩
structure gv0
def gv:gv0:=⟨⟩
instance:Coe gv0 (Array Θ):=⟨fun _=>#[.int .i64 0,.int .i64 0,.int .i64 0,.bool false]⟩
structure gw0
def gw:gw0:=⟨⟩
instance:Coe gw0 (Array Θ):=⟨fun _=>#[.int .i64 1,.int .i64 5,.int .i64 1]⟩
structure gz0
def gz:gz0:=⟨⟩
instance:Coe gz0 (Array Θ):=⟨fun _=>#[.int .i64 0,.bool false]⟩
structure gA0
def gA:gA0:=⟨⟩
instance:Coe gA0 (Array Θ):=⟨fun _=>#[.int .i64 0,.int .i64 0,.bool false]⟩
structure gC0
def gC:gC0:=⟨⟩
instance:Coe gC0 (Array Θ):=⟨fun _=>#[.int .i64 0,.int .i64 0,.int .i64 0]⟩
structure gD0
def gD:gD0:=⟨⟩
instance:Coe gD0 (Array Θ):=⟨fun _=>#[.int .i64 0,.slice none 0 0,.int .i64 0,.int .i64 0]⟩
structure gE0
def gE:gE0:=⟨⟩
instance:Coe gE0 (Array Θ):=⟨fun _=>#[.int .i64 7,.int .i64 0,.int .i64 10]⟩
structure gF0
def gF:gF0:=⟨⟩
instance:Coe gF0 (Array Θ):=⟨fun _=>#[.int .i64 0,.int .i64 0]⟩
structure gH0
def gH:gH0:=⟨⟩
instance:Coe gH0 (Array Θ):=⟨fun _=>#[.int .i64 0,.slice none 0 0]⟩
instance:Coe ω Nat:=⟨fun w=>w.heap.size⟩
instance:CoeFun ω (fun _=>ω→Prop):=⟨fun w=>Below w.heap.size w⟩
structure Z0
structure N0
def zI:Z0:=⟨⟩
def nS:N0:=⟨⟩
instance:Coe Int Θ:=⟨.int .i64⟩
instance:Coe Nat Θ:=⟨fun n=>.int .i64 (n:Int)⟩
instance:Coe Z0 Θ:=⟨fun _=>.int .i64 0⟩
instance:Coe N0 Θ:=⟨fun _=>.slice none 0 0⟩
instance:Coe Bool Θ:=⟨.bool⟩
instance:Coe (Array Θ) Θ:=⟨.agg⟩
instance:Coe Nat (Option δ):=⟨fun b=>some ⟨b,0,none⟩⟩
def ig:n<=n:=aW n
def gY:Below n w w:=aH n w
def jm{o:Obj}:w (w.alloc o):=(aH _ _).alloc (aW _) _
def gQ:(∀{α:Type}(l:List α),[]++l=l)/\ ∀{α:Type}(a:α)(l m:List α),a::l++m=a::(l++m):=⟨λ_=>rfl,λ_ _ _=>rfl⟩
def fD{α:Sort _}(a:α):∃b,b=a:=⟨a,rfl⟩
section
def q32 (x:BitVec 32):Θ:=.int .u32 (x.toNat:Int)
def jM(a:BitVec 32):aQ 32 (a.toNat:Int)=a:=by simp
def mW(a:BitVec 32):IntKind.u32.wrap (a.toNat:Int)=(a.toNat:Int):=by have:=a.isLt;rw[IntKind.wrap_u32];omega
def OT(a b:BitVec 32):((a.toNat:Int)==(b.toNat:Int))=(a==b):=by rw[Bool.eq_iff_iff];simp;exact⟨λh=>BitVec.eq_of_toNat_eq (by omega),λh=>by rw[h]⟩
def abg(a b:BitVec 32):((a.toNat:Int) != (b.toNat:Int))=(a != b):=by simp only[bne,OT]
def Ze(z:Int)(j:0<=z)(H:z<4294967296):Value.int .u32 z=q32 (aQ 32 z):=by unfold q32;rw[BitVec.toNat_ofInt];congr 1;omega
section
variable (t:τ) (a b:BitVec 32)
@[go_sem] theorem afk:γ .add t (q32 a) (q32 b)=pure (q32 (a+b)):=by
 have e:IntKind.u32.wrap ((a.toNat:Int)+b.toNat)=((a+b).toNat:Int):=by rw[IntKind.wrap_u32,BitVec.toNat_add];omega
 simp[q32,γ,Op.intArith,e]
@[go_sem] theorem anL:γ .sub t (q32 a) (q32 b)=pure (q32 (a-b)):=by
 have e:IntKind.u32.wrap ((a.toNat:Int)-b.toNat)=((a-b).toNat:Int):=by have:=a.isLt;have:=b.isLt;rw[IntKind.wrap_u32,BitVec.toNat_sub];omega
 simp[q32,γ,Op.intArith,e]
@[go_sem] theorem anM:γ .xor t (q32 a) (q32 b)=pure (q32 (a ^^^ b)):=by
 have e:IntKind.u32.wrap ((aQ 32 (a.toNat:Int) ^^^ aQ 32 (b.toNat:Int)).toNat:Int)=((a ^^^ b).toNat:Int):=by rw[jM,jM,mW]
 show Op.intBits .xor .u32 _ _=_;exact ξ (fun n=>(pure (Value.int .u32 n):Sem Θ)) e
@[go_sem] theorem ahR (n:Int):γ .xor t (q32 a) (.int .u32 n)=pure (q32 (a ^^^ aQ 32 n)):=by
 have e:IntKind.u32.wrap ((aQ 32 (a.toNat:Int) ^^^ aQ 32 n).toNat:Int)=((a ^^^ aQ 32 n).toNat:Int):=by rw[jM,mW]
 show Op.intBits .xor .u32 _ _=_;exact ξ (fun n=>(pure (Value.int .u32 n):Sem Θ)) e
@[go_sem] theorem an4:γ .or t (q32 a) (q32 b)=pure (q32 (a ||| b)):=by
 have e:IntKind.u32.wrap ((aQ 32 (a.toNat:Int) ||| aQ 32 (b.toNat:Int)).toNat:Int)=((a ||| b).toNat:Int):=by rw[jM,jM,mW]
 show Op.intBits .or .u32 _ _=_;exact ξ (fun n=>(pure (Value.int .u32 n):Sem Θ)) e
@[go_sem] theorem aiG (n:Int):γ .or t (q32 a) (.int .u32 n)=pure (q32 (a ||| aQ 32 n)):=by
 have e:IntKind.u32.wrap ((aQ 32 (a.toNat:Int) ||| aQ 32 n).toNat:Int)=((a ||| aQ 32 n).toNat:Int):=by rw[jM,mW]
 show Op.intBits .or .u32 _ _=_;exact ξ (fun n=>(pure (Value.int .u32 n):Sem Θ)) e
@[go_sem] theorem anN:γ .and t (q32 a) (q32 b)=pure (q32 (a &&& b)):=by
 have e:IntKind.u32.wrap ((aQ 32 (a.toNat:Int) &&& aQ 32 (b.toNat:Int)).toNat:Int)=((a &&& b).toNat:Int):=by rw[jM,jM,mW]
 show Op.intBits .and .u32 _ _=_;exact ξ (fun n=>(pure (Value.int .u32 n):Sem Θ)) e
@[go_sem] theorem ahS (n:Int):γ .and t (q32 a) (.int .u32 n)=pure (q32 (a &&& aQ 32 n)):=by
 have e:IntKind.u32.wrap ((aQ 32 (a.toNat:Int) &&& aQ 32 n).toNat:Int)=((a &&& aQ 32 n).toNat:Int):=by rw[jM,mW]
 show Op.intBits .and .u32 _ _=_;exact ξ (fun n=>(pure (Value.int .u32 n):Sem Θ)) e
@[go_sem] theorem anO:γ .eql t (q32 a) (q32 b)=pure (.bool (a==b)):=by show γ .eql t (.int .u32 _) (.int .u32 _)=_;rw[binOp_eql,OT]
@[go_sem] theorem anP:γ .neq t (q32 a) (q32 b)=pure (.bool (a != b)):=by show γ .neq t (.int .u32 _) (.int .u32 _)=_;rw[binOp_neq,abg]
theorem X6(n:Int)(j:0<=n)(H:n<4294967296):((aQ 32 n).toNat:Int)=n:=by rw[BitVec.toNat_ofInt];omega
@[go_sem] theorem ahT (n:Int) (h0:0<=n) (h1:n<4294967296):γ .eql t (q32 a) (.int .u32 n)=pure (.bool (a==aQ 32 n)):=by show γ .eql t (.int .u32 _) (.int .u32 _)=_;rw[binOp_eql,<-OT,X6 n h0 h1]
@[go_sem] theorem ahU (n:Int) (h0:0<=n) (h1:n<4294967296):γ .neq t (q32 a) (.int .u32 n)=pure (.bool (a != aQ 32 n)):=by show γ .neq t (.int .u32 _) (.int .u32 _)=_;rw[binOp_neq,<-abg,X6 n h0 h1]
@[go_sem] theorem anQ (yk:IntKind) (n:Int) (h0:0<=n) (hn:n<=32):γ .shl t (q32 a) (.int yk n)=pure (q32 (a <<< n.toNat)):=by
 have e:IntKind.u32.wrap ((a.toNat:Int)*2 ^ n.toNat)=((a <<< n.toNat).toNat:Int):=by rw[IntKind.wrap_u32,BitVec.toNat_shiftLeft,Nat.shiftLeft_eq];simp
 show Op.shift .shl .u32 _ yk _=_;rw[shift_shl_u32 yk _ _ h0 hn];exact ξ (fun n=>(pure (Value.int .u32 n):Sem Θ)) e
@[go_sem] theorem anR (yk:IntKind) (n:Int) (h0:0<=n) (hn:n<=32):γ .shr t (q32 a) (.int yk n)=pure (q32 (a >>> n.toNat)):=by
 have e:((a.toNat:Int) / 2 ^ n.toNat)=((a >>> n.toNat).toNat:Int):=by rw[BitVec.toNat_ushiftRight,Nat.shiftRight_eq_div_pow];simp
 show Op.shift .shr .u32 _ yk _=_;rw[shift_shr_u32 yk _ _ h0 hn];exact ξ (fun n=>(pure (Value.int .u32 n):Sem Θ)) e
@[go_sem] theorem ali (op:BinOp) (x y:κ) (v:Θ):eqGuard op t x y (q32 a) v=pure ():=by cases op <;> rfl
@[go_sem] theorem alj:aS.match_1 (fun _=>Array Θ) (q32 a) (fun cs=>cs) (fun v=> #[v])= #[q32 a]:=rfl
@[go_sem ↓] theorem alk:aS (q32 a)= #[q32 a]:=rfl
@[go_sem] theorem anS:aK (q32 a)=true:=rfl
@[go_sem] theorem alm (P:χ) (w:ω) (p:δ) (m:Mode):(store p (q32 a) m).run P w=stored P w p (q32 a) m:=run_store P w p _ m rfl
@[go_sem] theorem ahV {P:χ} (w:ω) (d:Nat) (k':IntKind) (h:P.underlying t=some (.int k')):(Op.equalIn (d+1) t (q32 a) (q32 b)).run P w=.ok (a==b) w:=by unfold q32;rw[run_equalIn_int w d t .u32 k' _ _ h];exact ξ (fun r=>Result.ok r w) (OT a b)
end
def q64 (x:BitVec 64):Θ:=.int .u64 (x.toNat:Int)
def jO(a:BitVec 64):aQ 64 (a.toNat:Int)=a:=by simp
def mX(a:BitVec 64):IntKind.u64.wrap (a.toNat:Int)=(a.toNat:Int):=by have:=a.isLt;rw[IntKind.wrap_u64];omega
def OU(a b:BitVec 64):((a.toNat:Int)==(b.toNat:Int))=(a==b):=by rw[Bool.eq_iff_iff];simp;exact⟨λh=>BitVec.eq_of_toNat_eq (by omega),λh=>by rw[h]⟩
def abh(a b:BitVec 64):((a.toNat:Int) != (b.toNat:Int))=(a != b):=by simp only[bne,OU]
section
variable (t:τ) (a b:BitVec 64)
@[go_sem] theorem anT:γ .add t (q64 a) (q64 b)=pure (q64 (a+b)):=by
 have e:IntKind.u64.wrap ((a.toNat:Int)+b.toNat)=((a+b).toNat:Int):=by rw[IntKind.wrap_u64,BitVec.toNat_add];omega
 simp[q64,γ,Op.intArith,e]
@[go_sem] theorem anU:γ .sub t (q64 a) (q64 b)=pure (q64 (a-b)):=by
 have e:IntKind.u64.wrap ((a.toNat:Int)-b.toNat)=((a-b).toNat:Int):=by have:=a.isLt;have:=b.isLt;rw[IntKind.wrap_u64,BitVec.toNat_sub];omega
 simp[q64,γ,Op.intArith,e]
@[go_sem] theorem afl:γ .xor t (q64 a) (q64 b)=pure (q64 (a ^^^ b)):=by
 have e:IntKind.u64.wrap ((aQ 64 (a.toNat:Int) ^^^ aQ 64 (b.toNat:Int)).toNat:Int)=((a ^^^ b).toNat:Int):=by rw[jO,jO,mX]
 show Op.intBits .xor .u64 _ _=_;exact ξ (fun n=>(pure (Value.int .u64 n):Sem Θ)) e
@[go_sem] theorem ahW (n:Int):γ .xor t (q64 a) (.int .u64 n)=pure (q64 (a ^^^ aQ 64 n)):=by
 have e:IntKind.u64.wrap ((aQ 64 (a.toNat:Int) ^^^ aQ 64 n).toNat:Int)=((a ^^^ aQ 64 n).toNat:Int):=by rw[jO,mX]
 show Op.intBits .xor .u64 _ _=_;exact ξ (fun n=>(pure (Value.int .u64 n):Sem Θ)) e
@[go_sem] theorem an5:γ .or t (q64 a) (q64 b)=pure (q64 (a ||| b)):=by
 have e:IntKind.u64.wrap ((aQ 64 (a.toNat:Int) ||| aQ 64 (b.toNat:Int)).toNat:Int)=((a ||| b).toNat:Int):=by rw[jO,jO,mX]
 show Op.intBits .or .u64 _ _=_;exact ξ (fun n=>(pure (Value.int .u64 n):Sem Θ)) e
@[go_sem] theorem aiH (n:Int):γ .or t (q64 a) (.int .u64 n)=pure (q64 (a ||| aQ 64 n)):=by
 have e:IntKind.u64.wrap ((aQ 64 (a.toNat:Int) ||| aQ 64 n).toNat:Int)=((a ||| aQ 64 n).toNat:Int):=by rw[jO,mX]
 show Op.intBits .or .u64 _ _=_;exact ξ (fun n=>(pure (Value.int .u64 n):Sem Θ)) e
@[go_sem] theorem anV:γ .and t (q64 a) (q64 b)=pure (q64 (a &&& b)):=by
 have e:IntKind.u64.wrap ((aQ 64 (a.toNat:Int) &&& aQ 64 (b.toNat:Int)).toNat:Int)=((a &&& b).toNat:Int):=by rw[jO,jO,mX]
 show Op.intBits .and .u64 _ _=_;exact ξ (fun n=>(pure (Value.int .u64 n):Sem Θ)) e
@[go_sem] theorem ahX (n:Int):γ .and t (q64 a) (.int .u64 n)=pure (q64 (a &&& aQ 64 n)):=by
 have e:IntKind.u64.wrap ((aQ 64 (a.toNat:Int) &&& aQ 64 n).toNat:Int)=((a &&& aQ 64 n).toNat:Int):=by rw[jO,mX]
 show Op.intBits .and .u64 _ _=_;exact ξ (fun n=>(pure (Value.int .u64 n):Sem Θ)) e
@[go_sem] theorem anW:γ .eql t (q64 a) (q64 b)=pure (.bool (a==b)):=by show γ .eql t (.int .u64 _) (.int .u64 _)=_;rw[binOp_eql,OU]
@[go_sem] theorem anX:γ .neq t (q64 a) (q64 b)=pure (.bool (a != b)):=by show γ .neq t (.int .u64 _) (.int .u64 _)=_;rw[binOp_neq,abh]
theorem X7(n:Int)(j:0<=n)(H:n<18446744073709551616):((aQ 64 n).toNat:Int)=n:=by rw[BitVec.toNat_ofInt];omega
@[go_sem] theorem ahY (n:Int) (h0:0<=n) (h1:n<18446744073709551616):γ .eql t (q64 a) (.int .u64 n)=pure (.bool (a==aQ 64 n)):=by show γ .eql t (.int .u64 _) (.int .u64 _)=_;rw[binOp_eql,<-OU,X7 n h0 h1]
@[go_sem] theorem ahZ (n:Int) (h0:0<=n) (h1:n<18446744073709551616):γ .neq t (q64 a) (.int .u64 n)=pure (.bool (a != aQ 64 n)):=by show γ .neq t (.int .u64 _) (.int .u64 _)=_;rw[binOp_neq,<-abh,X7 n h0 h1]
@[go_sem] theorem anY (yk:IntKind) (n:Int) (h0:0<=n) (hn:n<=64):γ .shl t (q64 a) (.int yk n)=pure (q64 (a <<< n.toNat)):=by
 have e:IntKind.u64.wrap ((a.toNat:Int)*2 ^ n.toNat)=((a <<< n.toNat).toNat:Int):=by rw[IntKind.wrap_u64,BitVec.toNat_shiftLeft,Nat.shiftLeft_eq];simp
 show Op.shift .shl .u64 _ yk _=_;rw[shift_shl_u64 yk _ _ h0 hn];exact ξ (fun n=>(pure (Value.int .u64 n):Sem Θ)) e
@[go_sem] theorem anZ (yk:IntKind) (n:Int) (h0:0<=n) (hn:n<=64):γ .shr t (q64 a) (.int yk n)=pure (q64 (a >>> n.toNat)):=by
 have e:((a.toNat:Int) / 2 ^ n.toNat)=((a >>> n.toNat).toNat:Int):=by rw[BitVec.toNat_ushiftRight,Nat.shiftRight_eq_div_pow];simp
 show Op.shift .shr .u64 _ yk _=_;rw[shift_shr_u64 yk _ _ h0 hn];exact ξ (fun n=>(pure (Value.int .u64 n):Sem Θ)) e
@[go_sem] theorem aln (op:BinOp) (x y:κ) (v:Θ):eqGuard op t x y (q64 a) v=pure ():=by cases op <;> rfl
@[go_sem] theorem alo:aS.match_1 (fun _=>Array Θ) (q64 a) (fun cs=>cs) (fun v=> #[v])= #[q64 a]:=rfl
@[go_sem ↓] theorem alp:aS (q64 a)= #[q64 a]:=rfl
@[go_sem] theorem an0:aK (q64 a)=true:=rfl
@[go_sem] theorem alq (P:χ) (w:ω) (p:δ) (m:Mode):(store p (q64 a) m).run P w=stored P w p (q64 a) m:=run_store P w p _ m rfl
@[go_sem] theorem ah0 {P:χ} (w:ω) (d:Nat) (k':IntKind) (h:P.underlying t=some (.int k')):(Op.equalIn (d+1) t (q64 a) (q64 b)).run P w=.ok (a==b) w:=by unfold q64;rw[run_equalIn_int w d t .u64 k' _ _ h];exact ξ (fun r=>Result.ok r w) (OU a b)
end
def q8 (x:UInt8):Θ:=.int .u8 (x.toNat:Int)
def oD(a:UInt8):aQ 8 (a.toNat:Int)=a.toBitVec:=by apply BitVec.eq_of_toNat_eq;have:=a.toNat_lt;simp
def abj(a b:UInt8):((a.toNat:Int)==(b.toNat:Int))=(a==b):=by rw[Bool.eq_iff_iff];simp;exact⟨λh=>UInt8.toNat_inj.1 (by omega),λh=>by rw[h]⟩
def alv(a b:UInt8):((a.toNat:Int) != (b.toNat:Int))=(a != b):=by simp only[bne,abj]
section
variable (t:τ) (a b:UInt8)
@[go_sem] theorem an6:γ .xor t (q8 a) (q8 b)=pure (q8 (a ^^^ b)):=by
 have e:IntKind.u8.wrap ((aQ 8 (a.toNat:Int) ^^^ aQ 8 (b.toNat:Int)).toNat:Int)=((a ^^^ b).toNat:Int):=by rw[oD,oD,IntKind.wrap_u8];have h:(a.toBitVec ^^^ b.toBitVec).toNat=(a ^^^ b).toNat:=rfl;have:=(a ^^^ b).toNat_lt;rw[h];omega
 show Op.intBits .xor .u8 _ _=_;exact ξ (fun n=>(pure (Value.int .u8 n):Sem Θ)) e
@[go_sem] theorem an1:γ .quo t (q8 a) (.int .u8 2)=pure (q8 (a / 2)):=by
 have e:(IntKind.u8.wrap ((a.toNat:Int).tdiv 2))=((a / 2).toNat:Int):=by have:=a.toNat_lt;rw[IntKind.wrap_u8,UInt8.toNat_div,Int.tdiv_eq_ediv_of_nonneg (by omega)];simp;omega
 show γ .quo t (.int .u8 _) (.int .u8 _)=_;rw[binOp_quo];unfold Op.intDiv;simp only[show ¬((2:Int)=0) by decide,if_false];exact ξ (fun n=>(pure (Value.int .u8 n):Sem Θ)) e
@[go_sem] theorem an2:γ .rem t (q8 a) (.int .u8 2)=pure (q8 (a % 2)):=by
 have e:(((a.toNat:Int).tmod 2))=((a % 2).toNat:Int):=by have:=a.toNat_lt;rw[UInt8.toNat_mod,Int.tmod_eq_emod_of_nonneg (by omega)];simp
 show γ .rem t (.int .u8 _) (.int .u8 _)=_;rw[binOp_rem];unfold Op.intDiv;simp only[show ¬((2:Int)=0) by decide,if_false];exact ξ (fun n=>(pure (Value.int .u8 n):Sem Θ)) e
@[go_sem] theorem aiI:γ .eql t (q8 a) (q8 b)=pure (.bool (a==b)):=by show γ .eql t (.int .u8 _) (.int .u8 _)=_;rw[binOp_eql,abj]
@[go_sem] theorem an7:γ .neq t (q8 a) (q8 b)=pure (.bool (a != b)):=by show γ .neq t (.int .u8 _) (.int .u8 _)=_;rw[binOp_neq,alv]
@[go_sem] theorem alx (op:BinOp) (x y:κ) (v:Θ):eqGuard op t x y (q8 a) v=pure ():=by cases op <;> rfl
@[go_sem] theorem aly:aS.match_1 (fun _=>Array Θ) (q8 a) (fun cs=>cs) (fun v=> #[v])= #[q8 a]:=rfl
@[go_sem ↓] theorem alz:aS (q8 a)= #[q8 a]:=rfl
@[go_sem] theorem an8:aK (q8 a)=true:=rfl
@[go_sem] theorem alA (P:χ) (w:ω) (p:δ) (m:Mode):(store p (q8 a) m).run P w=stored P w p (q8 a) m:=run_store P w p _ m rfl
@[go_sem] theorem aiJ {P:χ} (w:ω) (d:Nat) (k':IntKind) (h:P.underlying t=some (.int k')):(Op.equalIn (d+1) t (q8 a) (q8 b)).run P w=.ok (a==b) w:=by unfold q8;rw[run_equalIn_int w d t .u8 k' _ _ h];exact ξ (fun r=>Result.ok r w) (abj a b)
end
section
variable (t:τ) (a:BitVec 64) (n:Int)
@[go_sem] theorem ah1:γ .mul t (q64 a) (.int .u64 n)=pure (q64 (a*aQ 64 n)):=by
 have e:IntKind.u64.wrap ((a.toNat:Int)*n)=((a*aQ 64 n).toNat:Int):=by
  rw[IntKind.wrap_u64,BitVec.toNat_mul,BitVec.toNat_ofInt];have h:((n % 18446744073709551616).toNat:Int)=n % 18446744073709551616:=by omega
  simp only[Int.natCast_emod,Int.natCast_mul];show _=((a.toNat:Int)*((n % 18446744073709551616).toNat:Int)) % 18446744073709551616;rw[h,Int.mul_emod (a.toNat:Int) n,Int.mul_emod (a.toNat:Int) (n % 18446744073709551616),Int.emod_emod_of_dvd n (Int.dvd_refl _)]
 simp[q64,γ,Op.intArith,e]
@[go_sem] theorem ah2:γ .sub t (.int .u64 n) (q64 a)=pure (q64 (aQ 64 n-a)):=by
 have e:IntKind.u64.wrap (n-(a.toNat:Int))=((aQ 64 n-a).toNat:Int):=by have:=a.isLt;rw[IntKind.wrap_u64,BitVec.toNat_sub,BitVec.toNat_ofInt];omega
 simp[q64,γ,Op.intArith,e]
end
section
variable {P:χ} (w:ω) (src dst:τ)
@[go_sem] theorem alr (a:UInt8) (hs:(P.underlying src).isSome=true) (hd:P.underlying dst=some (.int .u64)):(convert src dst (q8 a)).run P w=.ok (q64 (bT 64 a.toNat)) w:=by
 obtain⟨d,hd'⟩:=Option.isSome_iff_exists.mp hs;have e:IntKind.u64.wrap (a.toNat:Int)=((bT 64 a.toNat).toNat:Int):=by have:=a.toNat_lt;rw[IntKind.wrap_u64,BitVec.toNat_ofNat];omega
 simp[q8,convert,ν hd',ν hd,Conv.intToInt,e,q64]
@[go_sem] theorem aiK (a:UInt8) (hs:(P.underlying src).isSome=true) (hd:P.underlying dst=some (.int .i64)):(convert src dst (q8 a)).run P w=.ok (.int .i64 a.toNat) w:=by
 obtain⟨d,hd'⟩:=Option.isSome_iff_exists.mp hs;have e:IntKind.i64.wrap (a.toNat:Int)=(a.toNat:Int):=by have:=a.toNat_lt;rw[IntKind.wrap_i64];omega
 simp[q8,convert,ν hd',ν hd,Conv.intToInt,e]
@[go_sem] theorem als (a:BitVec 32) (hs:(P.underlying src).isSome=true) (hd:P.underlying dst=some (.int .u8)):(convert src dst (q32 a)).run P w=.ok (q8 (UInt8.ofBitVec (a.setWidth 8))) w:=by
 obtain⟨d,hd'⟩:=Option.isSome_iff_exists.mp hs;have e:IntKind.u8.wrap (a.toNat:Int)=((UInt8.ofBitVec (a.setWidth 8)).toNat:Int):=by
  have h:(UInt8.ofBitVec (a.setWidth 8)).toNat=a.toNat % 256:=by show(a.setWidth 8).toNat=_;rw[BitVec.toNat_setWidth]
  rw[IntKind.wrap_u8,h];omega
 simp[q32,convert,ν hd',ν hd,Conv.intToInt,e,q8]
@[go_sem] theorem alu (a:BitVec 64) (hs:(P.underlying src).isSome=true) (hd:P.underlying dst=some (.int .u8)):(convert src dst (q64 a)).run P w=.ok (q8 (UInt8.ofBitVec (a.setWidth 8))) w:=by
 obtain⟨d,hd'⟩:=Option.isSome_iff_exists.mp hs;have e:IntKind.u8.wrap (a.toNat:Int)=((UInt8.ofBitVec (a.setWidth 8)).toNat:Int):=by
  have h:(UInt8.ofBitVec (a.setWidth 8)).toNat=a.toNat % 256:=by show(a.setWidth 8).toNat=_;rw[BitVec.toNat_setWidth]
  rw[IntKind.wrap_u8,h];omega
 simp[q64,convert,ν hd',ν hd,Conv.intToInt,e,q8]
end
section
variable {P:χ} (w:ω) (src dst:τ)
@[go_sem] theorem aiL (a:BitVec 32) (hs:(P.underlying src).isSome=true) (hd:P.underlying dst=some (.int .u64)):(convert src dst (q32 a)).run P w=.ok (q64 (a.setWidth 64)) w:=by
 obtain⟨d,hd'⟩:=Option.isSome_iff_exists.mp hs;have e:IntKind.u64.wrap (a.toNat:Int)=((a.setWidth 64).toNat:Int):=by have:=a.isLt;rw[IntKind.wrap_u64,BitVec.toNat_setWidth];omega
 simp[q32,convert,ν hd',ν hd,Conv.intToInt,e,q64]
@[go_sem] theorem aiM (a:BitVec 64) (hs:(P.underlying src).isSome=true) (hd:P.underlying dst=some (.int .u32)):(convert src dst (q64 a)).run P w=.ok (q32 (a.setWidth 32)) w:=by
 obtain⟨d,hd'⟩:=Option.isSome_iff_exists.mp hs;have e:IntKind.u32.wrap (a.toNat:Int)=((a.setWidth 32).toNat:Int):=by rw[IntKind.wrap_u32,BitVec.toNat_setWidth];omega
 simp[q64,convert,ν hd',ν hd,Conv.intToInt,e,q32]
end
def Rn(x:BitVec 32)(a b:Nat)(h:a+b=32)(H:0<a)(J:0<b):(x.rotateLeft a).rotateLeft b=x:=by
 apply BitVec.eq_of_getLsbD_eq;intro i hi;rw[BitVec.getLsbD_rotateLeft,dF (by omega:b<32)];by_cases j:i<b;.rw[decide_eq_true j,cond_true,BitVec.getLsbD_rotateLeft,dF (by omega:a<32),decide_eq_false (by omega),cond_false,decide_eq_true (by omega),Bool.true_and];congr 1;omega
 .rw[decide_eq_false j,cond_false,decide_eq_true hi,Bool.true_and,BitVec.getLsbD_rotateLeft,dF (by omega:a<32),decide_eq_true (by omega),cond_true];congr 1;omega
def abk(a b:BitVec 32):(a ^^^ b) ^^^ b=a:=by rw[BitVec.xor_assoc,BitVec.xor_self,BitVec.xor_zero]
def Zf(a b:BitVec 32):a ^^^ (b ^^^ a)=b:=by rw[BitVec.xor_comm b a,<-BitVec.xor_assoc,BitVec.xor_self,BitVec.zero_xor]
def Jk (p:BitVec 32 × BitVec 32):BitVec 64:=p.1.setWidth 64 <<< 32 ||| p.2.setWidth 64
def arv (b:BitVec 64):BitVec 32 × BitVec 32:=((b >>> 32).setWidth 32,b.setWidth 32)
def VB(b:BitVec 64):Jk (arv b)=b:=by
 unfold Jk arv;apply BitVec.eq_of_getLsbD_eq;intro i hi;by_cases h:i<32;.simp[h,hi]
 .have j:32+(i-32)=i:=by omega
  have H:i-32<32:=by omega
  simp[-BitVec.getElem_ushiftRight,h,hi,j,H]
def VD(p:BitVec 32 × BitVec 32):arv (Jk p)=p:=by
 obtain⟨x,y⟩:=p;unfold Jk arv;refine Prod.ext ?_ ?_
 .apply BitVec.eq_of_getLsbD_eq;intro i hi;have j:32+i<64:=by omega
  have H:i<64:=by omega
  simp[hi,j,H]
 .apply BitVec.eq_of_getLsbD_eq;intro i hi;simp[hi]
structure K4 where
  k0:BitVec 32
  k1:BitVec 32
  k2:BitVec 32
  k3:BitVec 32
deriving DecidableEq
def asg (k:K4):Nat->BitVec 32 × BitVec 32 × BitVec 32 × BitVec 32
 |0=>(k.k3,k.k2,k.k1,k.k0)
 |i+1=>
   let s:=asg k i
   let l:=(s.1+s.2.1.rotateLeft 24) ^^^ bT 32 i
   (s.1.rotateLeft 3 ^^^ l, s.2.2.1, s.2.2.2, l)
def rk (k:K4) (i:Nat):BitVec 32:=(asg k i).1
def lk (k:K4) (i:Nat):BitVec 32:=(asg k i).2.1
def ash (r:BitVec 32) (p:BitVec 32 × BitVec 32):BitVec 32 × BitVec 32:=((p.1.rotateLeft 24+p.2) ^^^ r,p.2.rotateLeft 3 ^^^ ((p.1.rotateLeft 24+p.2) ^^^ r))
def afm (r:BitVec 32) (p:BitVec 32 × BitVec 32):BitVec 32 × BitVec 32:=(((p.1 ^^^ r)-(p.1 ^^^ p.2).rotateLeft 29).rotateLeft 8,(p.1 ^^^ p.2).rotateLeft 29)
def abl(r:BitVec 32)(p:BitVec 32 × BitVec 32):afm r (ash r p)=p:=by obtain⟨x,y⟩:=p;unfold afm ash;simp only[Zf,abk];rw[Rn y 3 29 rfl (by decide) (by decide),BitVec.add_sub_cancel,Rn x 24 8 rfl (by decide) (by decide)]
def OV (k:K4):Nat->BitVec 32 × BitVec 32->BitVec 32 × BitVec 32
 |0,p=>p
 |n+1,p=>ash (rk k n) (OV k n p)
def afn (k:K4):Nat->BitVec 32 × BitVec 32->BitVec 32 × BitVec 32
 |0,p=>p
 |n+1,p=>afn k n (afm (rk k n) p)
def Zg(k:K4)(n:Nat)(p:BitVec 32 × BitVec 32):afn k n (OV k n p)=p:=by induction n with|zero=>rfl|succ n j=>show afn k n (afm (rk k n) (ash (rk k n) (OV k n p)))=p;rw[abl,j]
def Enc (k:K4) (b:BitVec 64):BitVec 64:=Jk (OV k 27 (arv b))
def Dec (k:K4) (b:BitVec 64):BitVec 64:=Jk (afn k 27 (arv b))
def X8(k:K4)(b:BitVec 64):Dec k (Enc k b)=b:=by unfold Dec Enc;rw[VD,Zg,VB]
def X9(k:K4){a b:BitVec 64}:Enc k a=Enc k b<->a=b:=⟨λh=>by rw[<-X8 k a,<-X8 k b,h],λh=>by rw[h]⟩
def Ya(w:ω)(A:Array Θ)(t:τ)(b i:Nat)(v:Θ)(J:b=w.heap.size):(w.alloc (.cells A t)).setCell ⟨b,i,none⟩ v=w.alloc (.cells (A.setIfInBounds i v) t):=by
 subst J;unfold World.alloc dD;simp only;congr 1;apply Array.ext;.simp
 .intro j H K;simp only[Array.getElem_modify,Array.getElem_push];simp only[Array.size_modify,Array.size_push]at H;by_cases h:j<w.heap.size;·(have hn:w.heap.size≠j:=by omega);simp[h,hn]
  ·(have hn:w.heap.size=j:=by omega);simp[hn]
def afo(w:ω)(o:Obj)(b i:Nat)(v:Θ)(K:b<w.heap.size):(w.alloc o).setCell ⟨b,i,none⟩ v=(w.setCell ⟨b,i,none⟩ v).alloc o:=by
 unfold World.alloc dD;simp only;congr 1;apply Array.ext;.simp
 .intro j H J;simp only[Array.getElem_modify,Array.getElem_push,Array.size_modify];simp only[Array.size_modify,Array.size_push]at H;by_cases h:j<w.heap.size;.simp[h]
  ·(have hn:b≠j:=by omega);simp[h,hn]
def Nq(w:ω)(n:Nat)(p:δ)(v:Θ):(w.drewN n).setCell p v=(w.setCell p v).drewN n:=rfl
def aq3{B:Nat}{a w:ω}(h:Below B a w)(n:Nat):Below B a (w.drewN n):=⟨h.os,h.tape,h.output,h.size,h.block⟩
def iP{w w':ω}{o:Obj}(h:Below (w.alloc o).heap.size (w.alloc o) w'):w w':=(gY.alloc ig o).trans (h.mono (by simp))
def Ir{w w':ω}{j H:Obj}(h:Below ((w.alloc j).alloc H).heap.size ((w.alloc j).alloc H) w'):Below (w.alloc j).heap.size (w.alloc j) w':=iP h
def gZ{w j H:ω}(h:w j)(k:j H):w H:=h.trans (k.mono h.size)
def fK (w:ω) (g:Nat) (t:τ) (cs:Array Θ):Prop:=w.heap[g]? =some (.cells cs t (0,0))
section
variable {w w':ω} {g:Nat} {t:τ} {cs:Array Θ}
def fK.lt(h:fK w g t cs):g<w.heap.size:=by
 rcases eu g w with H |j;.exact H
 .unfold fK at h;rw[dI j]at h;cases h
def fK.cell(h:fK w g t cs)(i:Nat):w.cell? ⟨g,i,none⟩=cs[i]? :=cell_of_row w g i cs t (0,0) h
def fK.frozen(h:fK w g t cs)(i:Nat):w.frozen? ⟨g,i,none⟩=false:=by unfold fK at h;simp[World.frozen?,h]
def fK.new(w:ω)(t:τ)(cs:Array Θ):fK (w.alloc (.cells cs t)) w t cs:=heap_alloc_new w _
def fK.newAt(w:ω)(t:τ)(cs:Array Θ)(g:Nat)(j:g=w.heap.size):fK (w.alloc (.cells cs t)) g t cs:=j▸heap_alloc_new w _
def fK.drewN(h:fK w g t cs)(n:Nat):fK (w.drewN n) g t cs:=h
def fK.drew(h:fK w g t cs):fK w.drew g t cs:=h
def fK.alloc(h:fK w g t cs)(o:Obj):fK (w.alloc o) g t cs:=(Below.heap_alloc w o g h.lt).trans h
def fK.iV(h:fK w g t cs)(i:Nat)(u:Θ):fK (w.setCell ⟨g,i,none⟩ u) g t (cs.setIfInBounds i u):=by unfold fK at h |-;simp[dD,Array.getElem?_modify,h]
def fK.far(h:fK w g t cs){p:δ}(j:g≠p.block)(u:Θ):fK (w.setCell p u) g t cs:=(aN w p u g j).trans h
def fK.below{B:Nat}(h:fK w g t cs)(j:Below B w w')(H:g<B):fK w' g t cs:=(j.block g H).trans h
def fK.grown{row:Option Nat}(h:fK w g t cs)(j:w.grownBy w' row)(H:some g≠row):fK w' g t cs:=(j.block g h.lt H).trans h
end
def fK.row{w:ω}{g:Nat}{t:τ}{old:Array Θ}(h:fK w g t old)(cs:Array Θ):fK (w.setRow g cs) g t cs:=setRow_heap w g old cs t (0,0) h
def fK.OW{w:ω}{g k:Nat}{t:τ}{cs:Array Θ}(h:fK w g t cs)(j:g≠k)(new:Array Θ):fK (w.setRow k new) g t cs:=(ζ w k g new j).trans h
def jk{B:Nat}{a w:ω}(h:Below B a w){g:Nat}(j:B<=g)(cs:Array Θ):Below B a (w.setRow g cs):=⟨h.os,h.tape,h.output,by simpa using h.size,λi hi=>(ζ w g i cs (by omega)).trans (h.block i hi)⟩
def LQ{P:χ}(t e:τ)(n:Nat)(cs:Array Θ)(k:IntKind)(i:Int)(v:Θ)(O:P.underlying t=some (.array n e))(M: ∀w:ω,(isAgg e).run P w=.ok false w)(H:(P.info? e).map (·.size)=some 1)(J:0<=i)(K:i<n)(U:cs[i.toNat]? =some v)(w:ω):(Instr.index t cs (.int k i)).run P w=.ok v w:=by
 cases j:P.info? e with
 |none=>simp[j]at H
 |some V=>
  have N:V.size=1:=by simpa[j] using H
  simp[Instr.index,asIntOf,ν O,J,K,sizeOf,typeInfo,j,N,part,M w,U]
def gy{P:χ}{ops:Array ο}{rest:List ο}{o:ο}{a:Act}{w:ω}{Q:Exit->Act->ω->Prop}(J:o.guard=none)(ty:τ)(x:κ)(K:o.op=.load ty x)(g:Nat)(N:a.eval x=.pointer g)(t:τ)(cs:Array Θ)(d:TypeDesc)(H:fK w g t cs)(M:P.underlying ty=some d)(j:(match d with | .struct _ | .array _ _=>true |_=>false)=true)(hi:(P.info? ty).map (·.size)=some cs.size)(h:Δ P ops Q rest (a.put o.dst cs) w):Δ P ops Q (o::rest) a w:=wpList_load_row J ty x K g N t cs (0,0) d H M j hi h
def F7{P:χ}{ops:Array ο}{rest:List ο}{o:ο}{a:Act}{w:ω}{Q:Exit->Act->ω->Prop}(N:o.guard=none)(ty:τ)(x y:κ)(V:o.op=.store ty x y)(g:Nat)(cells:Array Θ)(Z:a.eval x=.pointer g)(hy:a.eval y=cells)(t:τ)(old:Array Θ)(H:fK w g t old)(hi:(P.info? ty).map (·.size)=some cells.size)(Y:old.size=cells.size)(K:cells.all (·.oneCell')=true)(B:Nat)(w0:ω)(M:Below B w0 w)(hB:B<=g)(h: ∀W:ω,fK W g t cells->Below B w0 W->W.heap.size=w.heap.size->(∀(j:Nat) (J:τ) (cs':Array Θ),j≠g->fK w j J cs'->fK W j J cs')->Δ P ops Q rest (a.put o.dst υ) W):Δ P ops Q (o::rest) a w:=wpList_store_row N ty x y V g cells Z hy t old H hi Y K (h _ (fK.row H _) (jk M hB _) (by simp) λ_ _ _ U O=>O.OW U _)
def asn{P:χ}{e:τ}(d:Nat)(xs j:Array Θ)(H: ∀w:ω,(isAgg e).run P w=.ok false w)(x y:Nat->Θ)(b:Nat->Bool)(w:ω): ∀is:List Nat,(∀i∈is,xs[i]? =some (x i)/\j[i]? =some (y i)/\(Op.equalIn d e (x i) (y i)).run P w=.ok (b i) w)->(Op.eqItems d e 1 xs j is).run P w=.ok (is.all b) w
 | [],_=>by simp[Op.eqItems]
 |i::is,h=>by obtain⟨J,K,M⟩:=h i (by simp);have O:=asn d xs j H x y b w is (λU N=>h U (by simp[N]));simp only[Op.eqItems,part,Sem.run_bind,H w,Nat.mul_one,J,K,dO,bU,if_false,Sem.run_ite,Sem.run_pure,M,O,List.all_cons];cases b i <;> simp
def qG{W j:ω}(H:W j):(∀b o,b<W.heap.size->j.cell? ⟨b,o,none⟩=W.cell? ⟨b,o,none⟩)/\(∀b o,b<W.heap.size->j.frozen? ⟨b,o,none⟩=W.frozen? ⟨b,o,none⟩):=⟨λb o h=>H.cell (p:=⟨b,o,none⟩) h,λb o h=>H.frozen (p:=⟨b,o,none⟩) h⟩
def Es(a:δ)(n:Nat):(a.add n).block=a.block:=by unfold Addr.add;split <;> rfl
def VE(a:δ)(i j:Nat):(a.add i).add j=a.add (i+j):=by unfold Addr.add;by_cases hi:i=0 <;> by_cases H:j=0 <;> simp[hi,H,Nat.add_assoc]
def ari (w:ω) (B size:Nat) (A:Option δ) (n:Nat) (xs:List Θ):Prop:=xs.length=n*size/\(0<n-> ∃ad,A=some ad/\ad.block<B/\ ∀j u,xs[j]? =some u->w.cell? (ad.add j)=some u)
section
variable {w w':ω} {B B' size n:Nat} {A:Option δ} {xs:List Θ}
def ari.none_:ari w B size A 0 []:=⟨by simp,λh=>absurd h (by omega)⟩
def ari.at_{k:Nat}(h:ari w B 1 A n xs)(K:k<n): ∃j u,A=some j/\j.block<B/\xs[k]? =some u/\w.cell? (j.add k)=some u:=by
 obtain⟨j,e,J,hc⟩:=h.2 (by omega);have H:k<xs.length:=by have:=h.1;omega
 exact⟨j,xs[k],e,J,aI H,hc k _ (aI H)⟩
def ari.keep(h:ari w B size A n xs)(J: ∀p:δ,p.block<B->w'.cell? p=w.cell? p):ari w' B size A n xs:=⟨h.1,λhn=>by obtain⟨H,e,j,hc⟩:=h.2 hn;exact⟨H,e,j,λM u K=>(J _ (by rw[Es];exact j)).trans (hc M u K)⟩⟩
def ari.more(h:ari w B size A n xs)(hB:B<=B'):ari w B' size A n xs:=⟨h.1,λhn=>by obtain⟨j,e,H,hc⟩:=h.2 hn;exact⟨j,e,by omega,hc⟩⟩
def ari.below(h:ari w B size A n xs)(j:Below B w w'):ari w' B size A n xs:=h.keep λ_ H=>j.cell H
def ari.drew(h:ari w B size A n xs):ari w.drew B size A n xs:=h
def ari.drewN(h:ari w B size A n xs)(k:Nat):ari (w.drewN k) B size A n xs:=h
def ari.alloc(h:ari w B size A n xs)(hB:B<=w.heap.size)(o:Obj):ari (w.alloc o) B size A n xs:=h.keep λp j=>World.cell?_alloc_lt w o p (by omega)
def ari.setCell(h:ari w B size A n xs){p:δ}(hB:B<=p.block)(u:Θ):ari (w.setCell p u) B size A n xs:=h.keep λq j=>World.cell?_setCell_other w p q u (λe=>by subst e;omega)
def ari.grown(h:ari w B size A n xs){row:Option Nat}(j:w.grownBy w' row)(hB:B<=w.heap.size)(H: ∀g,row=some g->B<=g):ari w' B size A n xs:=h.keep λp J=>World.cell?_of_block (j.block p.block (by omega) (λe=>by have:=H _ e.symm;omega))
def ari.cut(h:ari w B size A n xs){k cap:Nat}(M:k<=n)(hc:n<=cap):ari w B size (if cap=k then A else A.map (·.add (k*size))) (n-k) (xs.drop (k*size)):=by refine⟨by rw[List.length_drop,h.1,Nat.sub_mul],λhn=>?_⟩;obtain⟨j,rfl,H,J⟩:=h.2 (by omega);rw[Ξ (by omega)];refine⟨j.add (k*size),rfl,by rw[Es];exact H,λN u K=>?_⟩;rw[VE];exact J _ u (by rw[<-K,List.getElem?_drop])
end
section
variable {P:χ} (w:ω)
def Et(base:Nat)(t ty e:τ)(i:TypeInfo)(size:Nat)(j:P.underlying t=some (.slice e))(hi:P.info? e=some i)(v:Θ)(n:Nat)(xs:List Θ)(J:w.ownsRow base e size v n xs)(c:Nat):(Builtin.append_ #[t,t] ty #[v,.slice none 0 c]).run P w=.ok v w:=by
 rcases J.2 with⟨rfl,rfl⟩ |⟨g,cap,cur,rfl,_,_,H,_⟩;.simp[Builtin.append_,ν j,sizeOf,typeInfo,hi,Builtin.lenOf,Builtin.firstCells]
 .simp[Builtin.append_,ν j,sizeOf,typeInfo,hi,Builtin.lenOf,Builtin.firstCells,H,storeCells]
def Jl(base:Nat)(t ty e:τ)(i:TypeInfo)(z:Θ)(size bytes:Nat)(U:P.underlying t=some (.slice e))(hi:P.info? e=some i)(hz:i.zero=some z)(ai:i.size=size)(ad:i.bytes=bytes)(al:z.cells.size=size)(ak:0<size)(v:Θ)(n:Nat)(xs:List Θ)(O:w.ownsRow base e size v n xs)(B:Nat)(A:Option δ)(m c:Nat)(H:List Θ)(K:ari w B size A m H)(Y: ∀u∈H,u.oneCell'=true)(aa:n+m<=μ)(ae:(n+m)*bytes<=140737488355328)(ac:base<=w.heap.size): ∃J w',(Builtin.append_ #[t,t] ty #[v,.slice A m c]).run P w=.ok J w'/\w'.ownsRow base e size J (n+m) (xs++H)/\w.grownBy w' v.ownBlock/\(J.ownBlock=v.ownBlock\/J.ownBlock=some w.heap.size):=by
 rcases A with _ |N
 .have hm:m=0:=by rcases Nat.eq_zero_or_pos m with j |j;(.exact j);.obtain⟨N,h,_⟩:=K.2 j;cases h
  subst hm;have hn:H= []:=dw (by simpa using K.1);subst hn;exact⟨v,w,Et w base t ty e i size U hi v n xs O c,by simpa using O,World.grownBy.refl w _,.inl rfl⟩
 .have af: ∀M u,H[M]? =some u->w.cell? (N.add M)=some u:=by intro M u V;rcases Nat.eq_zero_or_pos m with j |j;(.subst j;have hn:H= []:=dw (by simpa using K.1);subst hn;simp at V);.obtain⟨am,h,_,hc⟩:=K.2 j;injection h with h;subst h;exact hc M u V
  obtain⟨J,w',ag,Z,h3,_,h5⟩:=run_append_own_at (P:=P) w base t ty e i z size bytes U hi hz ai ad al ak v n xs O N m c H K.1 af Y aa ae ac;exact⟨J,w',ag,Z,h3,h5⟩
def CO{o:ο}{a:Act}{J:Act->ω->Prop}{Q:Exit->Act->ω->Prop}(s x:κ)(t:τ)(ho:o.op=.call {callee:=.builtin .append,args:= #[s,x],argTypes:= #[t,t]})(base:Nat)(e:τ)(i:TypeInfo)(z:Θ)(size bytes:Nat)(ht:P.underlying t=some (.slice e))(hi:P.info? e=some i)(hz:i.zero=some z)(ad:i.size=size)(Y:i.bytes=bytes)(af:z.cells.size=size)(ae:0<size)(v:Θ)(n:Nat)(xs:List Θ)(hs:a.eval s=v)(aa:w.ownsRow base e size v n xs)(B:Nat)(A:Option δ)(m c:Nat)(H:List Θ)(hx:a.eval x=.slice A m c)(hr:ari w B size A m H)(K: ∀u∈H,u.oneCell'=true)(U:n+m<=μ)(Z:(n+m)*bytes<=140737488355328)(V:base<=w.heap.size)(h: ∀j w',w'.ownsRow base e size j (n+m) (xs++H)->w.grownBy w' v.ownBlock->(j.ownBlock=v.ownBlock\/j.ownBlock=some w.heap.size)->J (a.put o.dst j) w'):o.wp P a w J Q:=by obtain⟨j,w',ac,M,N,O⟩:=Jl (P:=P) w base t o.type e i z size bytes ht hi hz ad Y af ae v n xs aa B A m c H hr K U Z V;unfold Oper.wp execOp;simp only[ho,resolve,invoke,builtin,Sem.run_bind,Sem.run_pure,dO,List.map_toArray,List.map_cons,List.map_nil,hs,hx,ac];exact h j w' M N O
def wF{ops:Array ο}{rest:List ο}{o:ο}{a:Act}{Q:Exit->Act->ω->Prop}(aa:o.guard=none)(s x:κ)(t:τ)(ho:o.op=.call {callee:=.builtin .append,args:= #[s,x],argTypes:= #[t,t]})(base:Nat)(e:τ)(i:TypeInfo)(z:Θ)(size bytes:Nat)(ht:P.underlying t=some (.slice e))(hi:P.info? e=some i)(hz:i.zero=some z)(ad:i.size=size)(Y:i.bytes=bytes)(af:z.cells.size=size)(ae:0<size)(v:Θ)(n:Nat)(xs:List Θ)(hs:a.eval s=v)(ac:w.ownsRow base e size v n xs)(B:Nat)(A:Option δ)(m c:Nat)(H:List Θ)(hx:a.eval x=.slice A m c)(hr:ari w B size A m H)(J: ∀u∈H,u.oneCell'=true)(O:n+m<=μ)(Z:(n+m)*bytes<=140737488355328)(V:base<=w.heap.size)(h: ∀j w',w'.ownsRow base e size j (n+m) (xs++H)->w.grownBy w' v.ownBlock->(j.ownBlock=v.ownBlock\/j.ownBlock=some w.heap.size)->Δ P ops Q rest (a.put o.dst j) w'):Δ P ops Q (o::rest) a w:=π aa λ_ U=>CO w s x t ho base e i z size bytes ht hi hz ad Y af ae v n xs hs ac B A m c H hx hr J O Z V λj w' K M N=>U _ _ (h j w' K M N)
end
def ari.block{w:ω}{g:Nat}{t:τ}{cs:Array Θ}{size m:Nat}(h:fK w g t cs)(J:cs.size=m*size):ari w w size g m cs.toList:=by
 refine⟨by simpa using J,λ_=>⟨⟨g,0,none⟩,rfl,h.lt,λj u K=>?_⟩⟩;have H:(⟨g,0,none⟩:δ).add j=⟨g,j,none⟩:=by unfold Addr.add;split <;> simp_all
 rw[H,h.cell];simpa using K
def ar8{w W:ω}{base:Nat}{e:τ}{size n:Nat}{v:Θ}{xs:List Θ}(h:w.ownsRow base e size v n xs)(j:w W):W.ownsRow base e size v n xs:=h.kept (row:=none) ⟨j.os,j.tape,j.output,j.size,λk H _=>j.block k H⟩ (by cases v.ownBlock <;> simp)
structure Kin (w:ω) where
  W:ω
  below:w W
instance (w:ω):Nonempty (Kin w):=⟨⟨w,aH _ _⟩⟩
section
variable {P:χ} {w:ω}
@[go_sem] theorem alB (s:Kin w) (b o:Nat) (h:b<w.heap.size):s.W.cell? ⟨b,o,none⟩=w.cell? ⟨b,o,none⟩:=s.below.cell (p:=⟨b,o,none⟩) h
@[go_sem] theorem aiN (s:Kin w) (b o:Nat) (h:b<w.heap.size):s.W.frozen? ⟨b,o,none⟩=w.frozen? ⟨b,o,none⟩:=s.below.frozen (p:=⟨b,o,none⟩) h
end
def nth (bs:List UInt8) (i:Nat):UInt8:=bs.getD i 0
def w8 (bs:List UInt8) (at':Nat):Nat->BitVec 64
 |0=>0
 |i+1=>if at'+i<bs.length then w8 bs at' i <<< 8 ||| bT 64 (nth bs (at'+i)).toNat else w8 bs at' i <<< 8
def Nr(bs:List UInt8)(p i:Nat)(h:p+i<bs.length):w8 bs p (i+1)=w8 bs p i <<< 8 ||| bT 64 (nth bs (p+i)).toNat:=by rw[w8,Υ h]
def F8(bs:List UInt8)(p i:Nat)(h: ¬p+i<bs.length):w8 bs p (i+1)=w8 bs p i <<< 8:=by rw[w8,Ξ h]
def Eu(x:BitVec 64)(b:Nat)(j:b<256):x <<< 8+bT 64 b=x <<< 8 ||| bT 64 b:=by
 apply BitVec.add_eq_or_of_and_eq_zero;apply BitVec.eq_of_getLsbD_eq;intro i hi;simp only[BitVec.getLsbD_and,BitVec.getLsbD_shiftLeft,BitVec.getLsbD_ofNat];by_cases h:i<8;.simp[h]
 .have:b.testBit i=false:=Nat.testBit_lt_two_pow (aU j (Nat.pow_le_pow_right (n:=2) (i:=8) (by decide) (by omega)));simp[this]
def wX (bs:List UInt8):Nat:=(bs.length+7) / 8
def xE (bs:List UInt8) (j:Nat):BitVec 64:=w8 bs (8*j) 8
def jY (bs:List UInt8) (n:Nat):List (BitVec 64):=bT 64 bs.length::(eY n).map (xE bs)
def pq (bs:List UInt8):List (BitVec 64):=jY bs (wX bs)
def CP(bs:List UInt8)(n:Nat):jY bs (n+1)=jY bs n++ [xE bs n]:=by simp[jY,List.range_succ]
def Iu(bs:List UInt8)(n:Nat):(jY bs n).length=n+1:=by simp[jY]
def zA(bs:List UInt8){n:Nat}(h:n<=wX bs):jY bs n <+: pq bs:=by refine⟨((eY (wX bs-n)).map λi=>xE bs (n+i)),?_⟩;obtain⟨r,j⟩: ∃r,wX bs=n+r:=⟨wX bs-n,by omega⟩;unfold pq jY;rw[j,List.range_add,eX,List.map_map];simp[Function.comp_def]
def arw (k:K4) (m:BitVec 64) (l:List (BitVec 64)):BitVec 64:=l.foldl (fun m x=>Enc k (m ^^^ x)) m
def VF(k:K4)(m:BitVec 64)(l:List (BitVec 64))(x:BitVec 64):arw k m (l++ [x])=Enc k (arw k m l ^^^ x):=by simp[arw]
def uQ(k:K4)(m:BitVec 64)(l j:List (BitVec 64)):arw k m (l++j)=arw k (arw k m l) j:=by simp[arw]
def Yb{n:Nat}{a b c:BitVec n}:a ^^^ c=b ^^^ c<->a=b:=⟨λh=>by
 have:(a ^^^ c) ^^^ c=(b ^^^ c) ^^^ c:=by rw[h]
 simpa[BitVec.xor_assoc] using this,λh=>by rw[h]⟩
def abm{n:Nat}{a b c:BitVec n}:c ^^^ a=c ^^^ b<->a=b:=by rw[BitVec.xor_comm c a,BitVec.xor_comm c b];exact Yb
def Zh(k:K4)(l:List (BitVec 64)): ∀m j:BitVec 64,arw k m l=arw k j l<->m=j:=by induction l with|nil=>intro m j;rfl|cons x l H=>intro m j;show arw k (Enc k (m ^^^ x)) l=arw k (Enc k (j ^^^ x)) l<->_;rw[H,X9,Yb]
def Mac (k:K4) (bs:List UInt8):BitVec 64:=arw k 0 (pq bs)
def arp (k:K4) (x y:BitVec 32):K4:=let a:=Enc k (Jk (x,y));let b:=Enc k (~~~ a);⟨(arv a).1,(arv a).2,(arv b).1,(arv b).2⟩
def p8:(256:Nat) ^ 8=18446744073709551616:=by simp
def p7:(256:Nat) ^ 7=72057594037927936:=by simp
def VG(x:Nat)(h:x<72057594037927936):x*256 % 18446744073709551616=x*256:=dF (by omega)
def Ew(z:BitVec 64):(z <<< 8).toNat=z.toNat*256 % 18446744073709551616:=by rw[BitVec.toNat_shiftLeft,Nat.shiftLeft_eq]
def Ro(z:BitVec 64):(z >>> 8).toNat=z.toNat / 256:=by rw[BitVec.toNat_ushiftRight,Nat.shiftRight_eq_div_pow]
def CQ(z:BitVec 64)(j:z <<< 8 >>> 8=z):z.toNat<72057594037927936:=by have:=ξ BitVec.toNat j;rw[Ro,Ew]at this;omega
def OX(x:BitVec 64)(a:Nat)(j:x.toNat<72057594037927936)(H:a<256):(x <<< 8+bT 64 a).toNat=x.toNat*256+a:=by rw[BitVec.toNat_add,Ew,VG _ j,BitVec.toNat_ofNat];omega
def Rq(a b:List UInt8)(J:a.length=b.length)(p:Nat): ∀n,(∀i,i<n->p+i<a.length->nth a (p+i)=nth b (p+i))->w8 a p n=w8 b p n
 |0,_=>rfl
 |n+1,h=>by
  have H:=Rq a b J p n (λi hi=>h i (by omega));by_cases j:p+n<a.length;.rw[Nr a p n j,Nr b p n (by omega),H,h n (by omega) j]
  .rw[F8 a p n j,F8 b p n (by omega),H]
def aiO(x y:BitVec 64)(a b:Nat)(j:a<256)(H:b<256)(K:x <<< 8 >>> 8=x)(M:y <<< 8 >>> 8=y)(h:x <<< 8 ||| bT 64 a=y <<< 8 ||| bT 64 b):x=y/\a=b:=by rw[<-Eu x a j,<-Eu y b H]at h;have J:=ξ BitVec.toNat h;rw[OX x a (CQ x K) j,OX y b (CQ y M) H]at J;exact⟨BitVec.eq_of_toNat_eq (by omega),by omega⟩
def Ru(bs:List UInt8)(p:Nat): ∀n,n<=8->(w8 bs p n).toNat<256 ^ n
 |0,_=>by simp[w8]
 |n+1,h=>by
  have M:=Ru bs p n (by omega);have K:256 ^ n<=72057594037927936:=by rw[<-p7];exact Nat.pow_le_pow_right (by decide) (by omega)
  have H:(w8 bs p n).toNat<72057594037927936:=by omega
  by_cases J:p+n<bs.length;.have j:(nth bs (p+n)).toNat<256:=(nth bs (p+n)).toNat_lt;rw[Nr bs p n J,<-Eu _ _ j,OX _ _ H j,Nat.pow_succ];generalize 256 ^ n=q at*;omega
  .rw[F8 bs p n J,Ew,VG _ H,Nat.pow_succ];omega
def Yc(bs:List UInt8)(p n:Nat)(h:n<8):w8 bs p n <<< 8 >>> 8=w8 bs p n:=by
 apply BitVec.eq_of_toNat_eq;have H:=Ru bs p n (by omega);have j:256 ^ n<=72057594037927936:=by rw[<-p7];exact Nat.pow_le_pow_right (by decide) (by omega)
 rw[Ro,Ew,VG _ (by omega)];omega
def VH(a b:List UInt8)(K:a.length=b.length)(p:Nat): ∀n,n<=8->w8 a p n=w8 b p n-> ∀i,i<n->p+i<a.length->nth a (p+i)=nth b (p+i)
 |0,_,_=>λi hi=>absurd hi (by omega)
 |n+1,hn,h=>by
  have H:=Yc a p n (by omega);have J:=Yc b p n (by omega);intro i hi M;by_cases N:p+n<a.length;.rw[Nr a p n N,Nr b p n (by omega)]at h;obtain⟨j,O⟩:=aiO _ _ _ _ (nth a (p+n)).toNat_lt (nth b (p+n)).toNat_lt H J h;by_cases U:i=n;(.subst U;exact UInt8.toNat_inj.1 O);.exact VH a b K p n (by omega) j i (by omega) M
  .rw[F8 a p n N,F8 b p n (by omega)]at h;(have j:w8 a p n=w8 b p n:=by rw[<-H,<-J,h]);exact VH a b K p n (by omega) j i (by omega) M
def VI(k:K4)(a b:List UInt8)(H:a.length=b.length)(j:Nat)(h: ∀i,i / 8≠j->nth a i=nth b i):Mac k a=Mac k b<->a=b:=by
 refine⟨λhm=>?_,λh=>by rw[h]⟩;have hn:wX a=wX b:=by unfold wX;rw[H]
 have O: ∀i,i≠j->xE a i=xE b i:=λi hi=>Rq a b H _ 8 (λt Z _=>h _ (by omega));by_cases Y:j<wX a
 .obtain⟨r,N⟩: ∃r,wX a=j+1+r:=⟨wX a-(j+1),by omega⟩;have cut: ∀c:List UInt8,wX c=j+1+r->pq c=jY c j++([xE c j]++(eY r).map λi=>xE c (j+1+i)):=by intro c hc;unfold pq jY;rw[hc,List.range_add,eX,List.range_succ,eX,List.map_map];simp[Function.comp_def]
  have e1:jY a j=jY b j:=by unfold jY;rw[H];congr 1;apply List.map_congr_left;intro i hi;exact O i (by have:=List.mem_range.1 hi;omega)
  have e2:((eY r).map λi=>xE a (j+1+i))=(eY r).map λi=>xE b (j+1+i):=by apply List.map_congr_left;intro i _;exact O _ (by omega)
  unfold Mac at hm;rw[cut a N,cut b (hn▸N),e1,e2,uQ,uQ,uQ,uQ,Zh]at hm;have U:xE a j=xE b j:=by have:Enc k (arw k 0 (jY b j) ^^^ xE a j)=Enc k (arw k 0 (jY b j) ^^^ xE b j):=hm;rw[X9,abm]at this;exact this
  apply List.ext_getElem H;intro i J K;have M:nth a i=nth b i:=by by_cases V:i / 8=j;(·(have hi:8*j+i % 8=i:=by omega);have:=VH a b H (8*j) 8 (by omega) U (i % 8) (by omega) (by omega);rwa [hi]at this);.exact h i V
  simpa[nth,bH,J,K] using M
 .apply List.ext_getElem H;intro i J K;have M:nth a i=nth b i:=h i (by unfold wX at Y;omega);simpa[nth,bH,J,K] using M
def Row (w:ω) (A:Option δ) (xs:List Θ):Prop:=0<xs.length-> ∃b off,A=some ⟨b,off,none⟩/\b<w.heap.size/\ ∀j u,xs[j]? =some u->w.cell? ⟨b,off+j,none⟩=some u
section
variable {w w':ω} {A:Option δ} {xs:List Θ}
def Row.nil(w:ω)(A:Option δ):Row w A []:=λh=>absurd h (by simp)
def Row.keep(h:Row w A xs)(N:w.heap.size<=w'.heap.size)(H: ∀b o,b<w.heap.size->w'.cell? ⟨b,o,none⟩=w.cell? ⟨b,o,none⟩):Row w' A xs:=λK=>by obtain⟨b,off,e,j,hc⟩:=h K;exact⟨b,off,e,by omega,λM u J=>(H b _ j).trans (hc M u J)⟩
def Row.below(h:Row w A xs)(j:w w'):Row w' A xs:=h.keep j.size λb o H=>j.cell (p:=⟨b,o,none⟩) H
def Row.alloc(h:Row w A xs)(o:Obj):Row (w.alloc o) A xs:=h.below (gY.alloc ig o)
def Row.drewN(h:Row w A xs)(n:Nat):Row (w.drewN n) A xs:=h
def Row.drew(h:Row w A xs):Row w.drew A xs:=h
def Row.block{g:Nat}{t:τ}{cs:Array Θ}(h:fK w g t cs):Row w g cs.toList:=λ_=>
  ⟨g,0,rfl,h.lt,λH u j=>by rw[aJ,h.cell];simpa using j⟩
def Row.own{base:Nat}{e:τ}{g n c:Nat}(h:w.ownsRow base e 1 (.slice g n c) n xs):Row w g xs:=λ_=>
  ⟨g, 0, rfl, (h.lt g rfl).2, λj u H=> by
    have J:j<n*1:=by
      have K:=h.1
      have M:j<xs.length:=by
        rcases eu j xs.length with h |h
        ·
          exact h
        ·
          rw[dQ h]at H;cases H
      omega
    rw[aJ,h.cellAt j J];exact H⟩
def Row.reads{n:Nat}(h:Row w A xs)(hn:xs.length=n):ari w w 1 A n xs:=⟨by omega,λK=>by obtain⟨b,off,e,H,hc⟩:=h (by omega);refine⟨⟨b,off,none⟩,e,H,λj u J=>?_⟩;rw[show(⟨b,off,none⟩:δ).add j=⟨b,off+j,none⟩ by unfold Addr.add;split <;> simp_all];exact hc j u J⟩
def Row.at_{k:Nat}{u:Θ}(h:Row w A xs)(H:xs[k]? =some u): ∃b off,A=some ⟨b,off,none⟩/\b<w.heap.size/\w.cell? ⟨b,off+k,none⟩=some u:=by
 have K:0<xs.length:=by
  rcases Nat.eq_zero_or_pos xs.length with j |j;.rw[dw j]at H;simp at H
  .exact j
 obtain⟨b,off,e,J,hc⟩:=h K;exact⟨b,off,e,J,hc k u H⟩
end
def aq6 (bs:List UInt8):List Θ:=bs.map q8
def aq8(bs:List UInt8):(aq6 bs).length=bs.length:=by simp[aq6]
def arK(bs:List UInt8)(k:Nat)(h:k<bs.length):(aq6 bs)[k]? =some (q8 (nth bs k)):=by simp[aq6,nth,h,bH]
def vJ(a b:List UInt8):aq6 (a++b)=aq6 a++aq6 b:=by simp[aq6]
def tY(bs:List UInt8): ∀u∈aq6 bs,u.oneCell'=true:=by intro u j;simp only[aq6,List.mem_map]at j;obtain⟨x,_,rfl⟩:=j;rfl
structure aq2 (w:ω) (A:Option δ) (c:Nat) (bs:List UInt8):Prop where
  row:Row w A (aq6 bs)
  cap:bs.length<=c
  max:c<=μ
section
variable {w w':ω} {A:Option δ} {c:Nat} {bs:List UInt8}
def aq2.below(h:aq2 w A c bs)(j:w w'):aq2 w' A c bs:=⟨h.row.below j,h.cap,h.max⟩
def aq2.alloc(h:aq2 w A c bs)(o:Obj):aq2 (w.alloc o) A c bs:=⟨h.row.alloc o,h.cap,h.max⟩
def aq2.drewN(h:aq2 w A c bs)(n:Nat):aq2 (w.drewN n) A c bs:=⟨h.row,h.cap,h.max⟩
def aq2.nil(w:ω):aq2 w none 0 []:=⟨Row.nil _ _,aW _,aV _⟩
def aq2.own{base g n:Nat}{e:τ}(h:w.ownsRow base e 1 (.slice g n c) n (aq6 bs)):aq2 w g c bs:=by
 refine⟨Row.own h,?_,?_⟩
 .rcases h.2 with⟨j,_⟩ |⟨J,H,cur,j,_,_,M,_⟩;.simp at j
  .simp only[dV]at j;have:=h.1;simp only[aq6,eU]at this;omega
 .rcases h.2 with⟨j,_⟩ |⟨J,H,cur,j,_,_,_,K,_⟩;.simp at j
  .simp only[dV]at j;omega
def aq2.at_{k:Nat}(h:aq2 w A c bs)(j:k<bs.length): ∃b off,A=some ⟨b,off,none⟩/\b<w.heap.size/\w.cell? ⟨b,off+k,none⟩=some (q8 (nth bs k)):=h.row.at_ (arK bs k j)
end
def jG (bs:List UInt8):Θ->ω->Prop:=fun v w=> ∃A c,v=.slice A bs.length c/\aq2 w A c bs
def jG.grow{bs:List UInt8}{v:Θ}{w w':ω}(h:jG bs v w)(j:w w'):jG bs v w':=by obtain⟨A,c,e,hB⟩:=h;exact⟨A,c,e,hB.below j⟩
def upd (u:Nat->Θ) (i:Nat) (v:Θ):Nat->Θ:=fun j=>if j=i then v else u j
def aq9 (u:Nat->Θ):List (Option Tmp)->Nat->Act->Act
 | [],_,a=>a
 |d::ds,i,a=>aq9 u ds (i+1) (a.put d (u i))
def Rw(u:Nat->Θ)(d:Option Tmp)(v:Θ): ∀(j:List (Option Tmp)) (i:Nat) (a:Act),(∀x,d=some x->some x∉j)->(aq9 u j i a).put d v=aq9 u j i (a.put d v)
 | [],_,_,_=>rfl
 |e::j,i,a,h=>by show(aq9 u j (i+1) (a.put e (u i))).put d v=aq9 u j (i+1) ((a.put d v).put e (u i));rw[Rw u d v j (i+1) _ (λx H hm=>h x H (List.mem_cons_of_mem _ hm)),Act.put_comm a v (u i) (x:=d) (y:=e) (λx H J=>h x H (by rw[J];exact List.mem_cons_self))]
def afp(a:Act)(d:Option Tmp)(v j:Θ):(a.put d v).put d j=a.put d j:=by cases d with|none=>rfl|some x=>simp[aP]
def Jm(u J:Nat->Θ): ∀(j:List (Option Tmp)) (i:Nat) (a:Act),(∀H,i<=H->u H=J H)->aq9 u j i a=aq9 J j i a
 | [],_,_,_=>rfl
 |d::j,i,a,h=>by show aq9 u j (i+1) (a.put d (u i))=aq9 J j (i+1) (a.put d (J i));rw[h i ig,Jm u J j (i+1) _ (λH K=>h H (by omega))]
def arl:List (Option Tmp)->Bool
 | []=>true
 |none::ds=>arl ds
 |some d::ds=> !ds.contains (some d)&&arl ds
def Rx(u:Nat->Θ)(v:Θ): ∀(j:List (Option Tmp)) (k i:Nat) (a:Act) (d:Option Tmp),arl j=true->j[i]? =some d->(aq9 u j k a).put d v=aq9 (upd u (k+i) v) j k a
 | [],_,_,_,_,_,h=>by simp at h
 |e::j,k,0,a,d,ha,h=>by
  simp only[eP,aO]at h;subst h;have hn: ∀x,e=some x->some x∉j:=by intro x J;subst J;simp only[arl,bM,Bool.not_eq_true',List.contains_eq_mem]at ha;simpa using ha.1
  show(aq9 u j (k+1) (a.put e (u k))).put e v=aq9 (upd u (k+0) v) j (k+1) (a.put e (upd u (k+0) v k));rw[Rw u e v j (k+1) _ hn,afp];have:upd u (k+0) v k=v:=by simp[upd]
  rw[this];exact Jm _ _ _ _ _ (λM K=>by simp[upd];omega)
 |e::j,k,i+1,a,d,ha,h=>by
  simp only[fB]at h;have H:arl j=true:=by cases e with|none=>exact ha|some x=>simp only[arl,bM]at ha;exact ha.2
  show(aq9 u j (k+1) (a.put e (u k))).put d v=aq9 (upd u (k+(i+1)) v) j (k+1) (a.put e (upd u (k+(i+1)) v k));rw[Rx u v j (k+1) i _ d H h];have e1:upd u (k+(i+1)) v k=u k:=by simp[upd]
  have e2:k+1+i=k+(i+1):=by omega
  rw[e1,e2]
def Ns(a:Act): ∀(j:List (Option Tmp)) (k:Nat) (u:Nat->Θ),(∀i d x,j[i]? =some (some d)->a.tmps[d]? =some x->u (k+i)=x)->aq9 u j k a=a
 | [],_,_,_=>rfl
 |d::j,k,u,h=>by
  have K:a.put d (u k)=a:=by cases d with|none=>rfl|some x=>cases H:a.tmps[x]? with|none=>unfold aP;simp only;rw[Array.setIfInBounds_eq_of_size_le (by simpa using H)]|some y=>have:=h 0 x y rfl H;simp only[bI]at this;rw[this];unfold aP;simp only;congr 1;apply Array.ext (by simp);intro M N O;by_cases J:x=M;(.subst J;have:=(dM.1 H).2;rw[Array.getElem_setIfInBounds_self,this]);.rw[Array.getElem_setIfInBounds_ne _ J]
  show aq9 u j (k+1) (a.put d (u k))=a;rw[K];exact Ns a j (k+1) u (λi e x hi H=>by have:=h (i+1) e x (by simpa using hi) H;rwa [show k+(i+1)=k+1+i by omega]at this)
def Ey (Φ:Θ->ω->Prop):Prop:= ∀v w w',Φ v w->w w'->Φ v w'
def Is (c:Θ):Θ->ω->Prop:=fun v _=>v=c
def Jo(c:Θ):Ey (Is c):=λ_ _ _ h _=>h
def fH (jU:List (Θ->ω->Prop)) (es:List Edge) (u:Nat->Θ) (w:ω):Prop:= ∀e∈es,aC .any e=true-> ∀Φ:Θ->ω->Prop,jU[e.on]? =some Φ->Φ (u e.on) w
def jP (P:χ) (ops:Array ο) (F:(Nat->Θ)->Act) (T:ω->ω->Prop) (o:ο) (Φ:Θ->ω->Prop) (Q:Exit->Act->ω->Prop) (u:Nat->Θ) (w:ω):Prop:=if aF o (ψ ops (F u).tmps)=true then ∀K:Act->ω->Prop,(∀v w',T w w'->Φ v w'->K ((F u).put o.dst v) w')->o.wp P (F u) w K Q else Φ υ w
def qR (P:χ) (ops:Array ο) (F:(Nat->Θ)->Act) (o:ο) (Φ:Θ->ω->Prop) (Q:Exit->Act->ω->Prop) (u:Nat->Θ) (w:ω):Prop:=jP P ops F (fun w w'=>w w') o Φ Q u w
def uO (ops:Array ο):Bool:=(eY ops.size).all fun i=>((ops[i]?).map fun o=>o.after.all fun e=> !aC .any e || decide (e.on<i)).getD false
def uF (ops:Array ο):Bool:=(eY (ops.size-1)).all fun i=>(eY ops.size).any fun j=>decide (i<j)&&((ops[j]?).map fun o=>o.after.any fun e=>decide (e.on=i)&&aC .any e).getD false
def mY (ops:Array ο) (i j:Nat):Prop:= ∀o,ops[j]? =some o-> ∀e∈o.after,aC .any e=true->e.on≠i
def fO (jU:List ((Nat->Θ)->ω->Prop)) (es:List Edge) (u:Nat->Θ) (w:ω):Prop:= ∀e∈es,aC .any e=true-> ∀Φ:(Nat->Θ)->ω->Prop,jU[e.on]? =some Φ->Φ u w
def uS (P:χ) (ops:Array ο) (F:(Nat->Θ)->Act) (T:ω->ω->Prop) (i:Nat) (o:ο) (Φ:(Nat->Θ)->ω->Prop) (Q:Exit->Act->ω->Prop) (u:Nat->Θ) (w:ω):Prop:=if aF o (ψ ops (F u).tmps)=true then ∀K:Act->ω->Prop,(∀v w',T w w'->Φ (upd u i v) w'->K ((F u).put o.dst v) w')->o.wp P (F u) w K Q else Φ (upd u i υ) w
def abn {D:Type} (L:Nat->ο->List D->D->Prop) (E:List D->Prop):List ο->Nat->List D->Prop
 | [],_,jU=>E jU
 |o::rest,i,jU=> ∃Φ,L i o jU Φ/\abn L E rest (i+1) (jU++ [Φ])
def abo {D:Type} (L:Nat->ο->List D->D->Prop) (E:ο->Nat->List D->Prop):List ο->Nat->List D->Prop
 | [],_,_=>False
 | [o],i,jU=>E o i jU
 |o::o'::rest,i,jU=> ∃Φ,L i o jU Φ/\abo L E (o'::rest) (i+1) (jU++ [Φ])
def sG{D:Type}{L:Nat->ο->List D->D->Prop}{E:List D->Prop}: ∀(l:List ο) (i:Nat) (H:List D),H.length=i->abn L E l i H-> ∃J:List D,J.length=i+l.length/\(∀j,j<i->J[j]? =H[j]?)/\(∀j o,l[j]? =some o-> ∃Φ,J[i+j]? =some Φ/\L (i+j) o (J.take (i+j)) Φ)/\E J
 | [],i,H,hl,h=>⟨H,by simpa using hl,λ_ _=>rfl,λj o Y=>by simp at Y,h⟩
 |o::rest,i,H,hl,h=>by
  obtain⟨Φ,hs,Z⟩:=h;obtain⟨J,O,M,U,V⟩:=sG rest (i+1) (H++ [Φ]) (by simp[hl]) Z;have aa:J.take i=H:=by apply List.ext_getElem?;intro j;by_cases N:j<i;(.rw[dG N,M j (by omega),dP (by omega)]);.rw[dQ (by simp;omega),dQ (by omega)]
  refine⟨J,by simp at O |-;omega,λj N=>by rw[M j (by omega),dP (by omega)],?_,V⟩;intro j p K;match j,K with|0,K=>simp only[eP,aO]at K;subst K;exact⟨Φ,by rw[bI,M i (by omega)];simp[hl],by rw[bI,aa];exact hs⟩|j+1,K=>have:=U j p (by simpa using K);rwa [show i+1+j=i+(j+1) by omega]at this
def yC{D:Type}{L:Nat->ο->List D->D->Prop}{E:ο->Nat->List D->Prop}: ∀(l:List ο) (i:Nat) (j:List D),abo L E l i j-> ∃r o,l=r++ [o]/\abn L (E o (i+r.length)) r i j
 | [],_,_,h=>h.elim
 | [o],_,_,h=>⟨[],o,rfl,h⟩
 |o::o'::rest,i,j,⟨Φ,h,hr⟩=>by obtain⟨r,p,e,H⟩:=yC (o'::rest) (i+1) _ hr;exact⟨o::r,p,by rw[e];rfl,Φ,h,by rw[bK,show i+(r.length+1)=i+1+r.length by omega];exact H⟩
section
variable {P:χ} {ops:Array ο} {F:(Nat->Θ)->Act} {w0:ω} {Q:Exit->Act->ω->Prop}
def Ry(h:uF ops=true){i:Nat}(hi:i<ops.size-1): ∃H o,i<H/\ops[H]? =some o/\ ∃e∈o.after,e.on=i/\aC .any e=true:=by unfold uF at h;rw[List.all_eq_true]at h;have M:=h i (by simpa using hi);rw[List.any_eq_true]at M;obtain⟨H,V,N⟩:=M;simp only[bM,decide_eq_true_eq]at N;obtain⟨O,j⟩:=N;cases K:ops[H]? with|none=>rw[K]at j;simp at j|some o=>rw[K]at j;simp only[eF,eG,Array.any_eq_true']at j;obtain⟨e,U,J⟩:=j;simp only[bM,decide_eq_true_eq]at J;exact⟨H,o,O,K,e,U,J.1,J.2⟩
def ar0{fuel:Nat}{H:Array Bool}{a:Act}{w:ω}(j:Region.ready .any ops H= [])(h:Q .normal a w):wpAny P .any ops Q fuel H a w:=by cases fuel with|zero=>exact⟨j,h⟩|succ fuel=>exact⟨λ_=>h,λi hi=>by rw[j]at hi;cases hi⟩
def Du(hB:uO ops=true){i:Nat}{o:ο}(H:ops[i]? =some o): ∀e∈o.after,aC .any e=true->e.on<i:=by intro e K J;unfold uO at hB;rw[List.all_eq_true]at hB;have M:i<ops.size:=(dM.1 H).1;have:=hB i (by simpa using M);rw[H]at this;simp only[eF,eG,Array.all_eq_true_iff_forall_mem]at this;have j:=this e K;rw[J]at j;simpa using j
def Jp(hB:uO ops=true)(j:Array Bool)(V:j.size=ops.size)(h:Region.ready .any ops j= []): ∀n i,i<n->i<ops.size->j.getD i false=true
 |0,_,h,_=>absurd h (by omega)
 |n+1,i,hi,H=>by
  have J:=Jp hB j V h n;by_cases U:i<n;.exact J i U H
  ·(obtain rfl:i=n:=by omega);cases N:j.getD i false with
   |false=>(have hm:i∈Region.ready .any ops j:=by rw[mem_ready];refine⟨?_,ops[i],cO H,λe O M=>?_⟩;(·(have K:i<j.size:=by omega);simpa[K] using N);.have:=Du hB (cO H) e O M;exact J e.on this (by omega));rw[h]at hm;cases hm
   |true=>rfl
def ar9(hB:uO ops=true)(G:ω->ω->Prop)(VJ: ∀a b c,G a b->G b c->G a c)(T:Nat->ω->ω->Prop)(VK: ∀i w w',T i w w'->G w w')(aa:Nat->ω->Prop)(Ci: ∀i j w w',i≠j->mY ops i j->aa i w->T j w w'->aa i w')(m:Nat)(hm:m=ops.size\/m+1=ops.size/\uF ops=true)(vw:List ((Nat->Θ)->ω->Prop))(a7:vw.length=m)(hF: ∀i o u v,i<m->ops[i]? =some o->(F u).put o.dst v=F (upd u i v))(aE: ∀i j (Φ:(Nat->Θ)->ω->Prop),i≠j->i<m->mY ops i j->vw[j]? =some Φ-> ∀u w,Φ u w->Φ (upd u i υ) w/\ ∀v w',T i w w'->Φ (upd u i v) w')(hs: ∀i o,i<m->ops[i]? =some o-> ∃Φ,vw[i]? =some Φ/\ ∀u w,G w0 w->aa i w->fO (vw.take i) o.after.toList u w->uS P ops F (T i) i o Φ Q u w)(a1: ∀o,ops[m]? =some o-> ∀u w,G w0 w->aa m w->(∀(j:Nat) (Φ:(Nat->Θ)->ω->Prop),vw[j]? =some Φ->Φ u w)->aF o (ψ ops (F u).tmps)=true/\ ∀av:Act->ω->Prop,(∀a w',Q .normal a w'->av a w')->o.wp P (F u) w av Q)(a4:m=ops.size-> ∀u w,G w0 w->(∀(j:Nat) (Φ:(Nat->Θ)->ω->Prop),vw[j]? =some Φ->Φ u w)->Q .normal (F u) w): ∀(fuel:Nat) (H:Array Bool) (u:Nat->Θ) (w:ω),H.size=ops.size->(m<ops.size->H.getD m false=false)->(∀i o,ops[i]? =some o->H.getD i false=true-> ∀e∈o.after,aC .any e=true->H.getD e.on false=true)->((eY ops.size).filter λi=> !H.getD i false).length<=fuel->G w0 w->(∀i,H.getD i false=false->aa i w)->(∀(j:Nat) (Φ:(Nat->Θ)->ω->Prop),H.getD j false=true->vw[j]? =some Φ->Φ u w)->wpAny P .any ops Q fuel H (F u) w:=by
 have ar: ∀ {j:Nat} {Φ:(Nat->Θ)->ω->Prop},vw[j]? =some Φ->j<m:=λh=>by rw[<-a7];exact(aX.1 h).1
 have aw: ∀(H:Array Bool) (u:Nat->Θ) (w:ω),H.size=ops.size->(m<ops.size->H.getD m false=false)->G w0 w->(∀(j:Nat) (Φ:(Nat->Θ)->ω->Prop),H.getD j false=true->vw[j]? =some Φ->Φ u w)->Region.ready .any ops H= []->Q .normal (F u) w:=by
  intro H u w ad h0 hb hv hr;have ae:=Jp hB H ad hr ops.size;rcases hm with hm |⟨hm,_⟩;.exact a4 hm u w hb λj Φ J=>hv j Φ (ae j (by have:=ar J;omega) (by have:=ar J;omega)) J
  .have:=ae m (by omega) (by omega);rw[h0 (by omega)]at this;cases this
 intro fuel;induction fuel with
 |zero=>
  intro H u w ad h0 _ hf hb ai hv;have hr:Region.ready .any ops H= []:=by cases hq:Region.ready .any ops H with|nil=>rfl|cons i rs=>(have hm:i∈Region.ready .any ops H:=by rw[hq];exact List.mem_cons_self);rw[mem_ready]at hm;obtain⟨h1,o,Z,_⟩:=hm;have hi:i<ops.size:=(dM.1 Z).1;(have:i∈(eY ops.size).filter λi=> !H.getD i false:=by rw[List.mem_filter];refine⟨by simpa using hi,?_⟩;(have h2:i<H.size:=by omega);simpa[h2] using h1);rw[dw (by omega:((eY ops.size).filter λi=> !H.getD i false).length=0)]at this;cases this
  exact⟨hr,aw H u w ad h0 hb hv hr⟩
 |succ fuel ih=>
  intro H u w ad h0 ap hf hb ai hv;refine⟨aw H u w ad h0 hb hv,λi hi=>?_⟩;rw[mem_ready]at hi;obtain⟨h1,o,Z,ak⟩:=hi;have hi:i<ops.size:=(dM.1 Z).1;have aM:=Du hB Z;have ba:(H.setIfInBounds i true).size=ops.size:=by simpa using ad
  have h2:i<H.size:=by omega
  have am:H.getD i false=false:=by simpa[h2] using h1
  have au:(H.setIfInBounds i true).getD i false=true:=by simp[h2]
  have up: ∀k,H.getD k false=true->(H.setIfInBounds i true).getD k false=true:=by intro k U;by_cases ac:i=k;(.rw[<-ac];exact au);.rw[getD_set_ne false ac];exact U
  unfold wpOp;rw[Z];simp only;by_cases aD:i=m;.subst aD;obtain⟨hm,hA⟩:i+1=ops.size/\uF ops=true:=hm.resolve_left (by omega);(have ae: ∀k j,j<i->i-j<=k->H.getD j false=true:=by intro k;induction k with|zero=>intro j h1 h2;omega|succ k bc=>intro j J U;obtain⟨j',o',bf,K,e,Y,af,O⟩:=Ry hA (i:=j) (by omega);have bd:j'<ops.size:=(dM.1 K).1;rw[<-af];by_cases aq:j'=i;(.subst aq;rw[Z]at K;injection K with K;subst K;exact ak e Y O);.exact ap j' o' K (bc j' (by omega) (by omega)) e Y O);obtain⟨hw,bb⟩:=a1 o Z u w hb (ai i am) λj Φ J=>hv j Φ (ae _ j (ar J) ig) J;rw[Υ hw];refine .inl (bb _ λa w' hQ=>ar0 ?_ hQ);cases hr:Region.ready .any ops (H.setIfInBounds i true) with|nil=>rfl|cons j js=>exfalso;(have J:j∈Region.ready .any ops (H.setIfInBounds i true):=by rw[hr];exact List.mem_cons_self);rw[mem_ready]at J;obtain⟨q1,q2,q3,_⟩:=J;have bh:j<ops.size:=(dM.1 q3).1;(have h4:(H.setIfInBounds i true).getD j false=true:=by by_cases aq:i=j;(.rw[<-aq];exact au);.exact up j (ae _ j (by omega) ig));(have h3:j<(H.setIfInBounds i true).size:=by omega);rw[Array.getD_eq_getD_getElem?,cO h3]at h4 q1;simp only[eG]at h4 q1;rw[h4]at q1;cases q1
  ·(have al:i<m:=by omega);obtain⟨Φ,Ez,hl⟩:=hs i o al Z;(have ag:=hl u w hb (ai i am) λe Y O N VL=>by(have ax:e∈o.after:=by simpa using Y);rw[dG (aM e ax O)]at VL;exact hv e.on N (ak e ax O) VL);(have az: ∀j,H.getD j false=true->mY ops i j:=by intro j J o' K e Y O af;have:=ap j o' K J e Y O;rw[af,am]at this;cases this);(have aR:((eY ops.size).filter λj=> !(H.setIfInBounds i true).getD j false).length<=fuel:=by(have a9:((eY ops.size).filter λj=> !(H.setIfInBounds i true).getD j false)=(((eY ops.size).filter λj=> !H.getD j false).filter λj=>decide (j≠i)):=by rw[List.filter_filter];apply List.filter_congr;intro j J;by_cases M:i=j;(.subst M;simp[h2]);.have: ¬j=i:=λh=>M h.symm;simp[dR M,this]);have bi:(((eY ops.size).filter λj=> !H.getD j false).filter λj=>decide (j≠i)).length<((eY ops.size).filter λj=> !H.getD j false).length:=List.length_filter_lt_length_iff_exists.2 ⟨i,List.mem_filter.2 ⟨by simpa using hi,by rw[am];rfl⟩,by simp⟩;rw[a9];omega);(have next: ∀v w',G w0 w'->(∀k,k≠i->H.getD k false=false->aa k w')->(∀(j:Nat) (N:(Nat->Θ)->ω->Prop),j≠i->H.getD j false=true->vw[j]? =some N->N (upd u i v) w')->Φ (upd u i v) w'->wpAny P .any ops Q fuel (H.setIfInBounds i true) ((F u).put o.dst v) w':=by intro v w' aL a8 a5 an;rw[hF i o u v al Z];refine ih _ _ _ ba (λhm=>by rw[getD_set_ne false aD];exact h0 hm) ?_ aR aL ?_ ?_;(.intro j o' K J e Y O;by_cases M:i=j;(.subst M;rw[Z]at K;injection K with K;subst K;exact up _ (ak e Y O));.rw[getD_set_ne false M]at J;exact up _ (ap j o' K J e Y O));(.intro k U;by_cases ac:i=k;(.rw[<-ac,au]at U;cases U);.rw[getD_set_ne false ac]at U;exact a8 k (λh=>ac h.symm) U);.intro j N J V;by_cases M:j=i;(.subst M;rw[Ez]at V;injection V with V;subst V;exact an);.rw[getD_set_ne false (λh=>M h.symm)]at J;exact a5 j N M J V);unfold uS at ag;by_cases hw:aF o (ψ ops (F u).tmps)=true;(.rw[Υ hw]at ag |-;refine .inl (ag _ λv w' ht an=>next v w' (VJ _ _ _ hb (VK i _ _ ht)) (λk a6 U=>Ci k i _ _ a6 (λo' K e Y O af=>by rw[Z]at K;injection K with K;subst K;have:=ak e Y O;rw[af,U]at this;cases this) (ai k U) ht) (λj N M J V=>(aE i j N (λh=>M h.symm) al (az j J) V _ _ (hv j N J V)).2 _ _ ht) an));.rw[Ξ hw]at ag |-;exact next υ w hb (λk _ U=>ai k U) (λj N M J V=>(aE i j N (λh=>M h.symm) al (az j J) V _ _ (hv j N J V)).1) ag
def Jr{id:Nat}{l:List ο}{a:Act}(G:ω->ω->Prop)(Z: ∀w:ω,G w w.drew)(V: ∀a b c,G a b->G b c->G a c)(T:Nat->ω->ω->Prop)(Y: ∀i w w',T i w w'->G w w')(J:Nat->ω->Prop)(aa: ∀i,J i w0.drew)(Ci: ∀i j w w',i≠j->mY l.toArray i j->J i w->T j w w'->J i w')(K:List (Option Tmp))(lX: ∀u,aq9 u K 0 a=F u)(ag:P.follows .mixedOrders=true)(hB:uO l.toArray=true)(hap:arl K=true)(m:Nat)(hm:m=l.length\/m+1=l.length/\uF l.toArray=true)(ac: ∀i o,i<m->l[i]? =some o->K[i]? =some o.dst)(H:List ((Nat->Θ)->ω->Prop))(af:H.length=m)(ai: ∀i j (Φ:(Nat->Θ)->ω->Prop),i≠j->i<m->mY l.toArray i j->H[j]? =some Φ-> ∀u w,Φ u w->Φ (upd u i υ) w/\ ∀v w',T i w w'->Φ (upd u i v) w')(hs: ∀i o,i<m->l[i]? =some o-> ∃Φ,H[i]? =some Φ/\ ∀u w,G w0 w->J i w->fO (H.take i) o.after.toList u w->uS P l.toArray F (T i) i o Φ Q u w)(ad: ∀o,l[m]? =some o-> ∀u w,G w0 w->J m w->(∀(j:Nat) (Φ:(Nat->Θ)->ω->Prop),H[j]? =some Φ->Φ u w)->aF o (ψ l.toArray (F u).tmps)=true/\ ∀O:Act->ω->Prop,(∀a w',Q .normal a w'->O a w')->o.wp P (F u) w O Q)(ae:m=l.length-> ∀u w,G w0 w->(∀(j:Nat) (Φ:(Nat->Θ)->ω->Prop),H[j]? =some Φ->Φ u w)->Q .normal (F u) w):(Code.region id l.toArray true).wp P Q a w0:=by
 have ha:a=F (λi=>match K[i]? with |some (some d)=>a.tmps.getD d υ |_=>υ):=by rw[<-lX];symm;apply Ns;intro i d x hi hx;simp only[aJ,hi];simp[hx]
 have N: ∀i,(Array.replicate l.toArray.size false).getD i false=false:=λi=>by simp only[Array.getD_eq_getD_getElem?,Array.getElem?_replicate];split <;> rfl
 refine wp_region_any ag ?_;rw[ha];refine ar9 (w0:=w0) hB G V T Y J Ci m (by simpa using hm) H af ?_ ai (λi o hi M=>hs i o hi (by simpa using M)) (λo M=>ad o (by simpa using M)) (by simpa using ae) _ _ _ _ (by simp) (λ_=>N m) (λi o _ hi=>by rw[N i]at hi;cases hi) (aG (List.length_filter_le _ _) (by simp)) (Z _) (λi _=>aa i) (λj Φ U=>by rw[N j]at U;cases U);intro i o u v hi M;rw[<-lX u,<-lX (upd u i v)];have:=Rx u v K 0 i a o.dst hap (ac i o hi (by simpa using M));rwa [aJ]at this
def abp(u:Nat->Θ)(i:Nat)(v:Θ):upd u i v i=v:=by simp[upd]
def jH(u:Nat->Θ){i j:Nat}(v:Θ)(h:j≠i):upd u i v j=u j:=by simp[upd,h]
def gI (i:Nat) (Φ:Θ->ω->Prop):(Nat->Θ)->ω->Prop:=fun u w=>Φ (u i) w
def Js{T:ω->ω->Prop}{o:ο}{i:Nat}{Φ:Θ->ω->Prop}{u:Nat->Θ}{w:ω}(h:jP P ops F T o Φ Q u w):uS P ops F T i o (gI i Φ) Q u w:=by unfold jP at h;unfold uS gI;simp only[abp];exact h
def yD{id:Nat}{l:List ο}{a:Act}(G:ω->ω->Prop)(Zi: ∀w:ω,G w w.drew)(VJ: ∀a b c,G a b->G b c->G a c)(T:Nat->ω->ω->Prop)(VK: ∀i w w',T i w w'->G w w')(K:Nat->ω->Prop)(ad: ∀i,K i w0.drew)(Ci: ∀i j w w',i≠j->K i w->T j w w'->K i w')(O:List (Option Tmp))(lX: ∀u,aq9 u O 0 a=F u)(am:P.follows .mixedOrders=true)(hB:uO l.toArray=true)(hap:arl O=true)(m:Nat)(hm:m=l.length\/m+1=l.length/\uF l.toArray=true)(af: ∀i o,i<m->l[i]? =some o->O[i]? =some o.dst)(H:List (Θ->ω->Prop))(ak:H.length=m)(an: ∀i j (Φ:Θ->ω->Prop),i≠j->i<m->H[j]? =some Φ-> ∀v w w',Φ v w->T i w w'->Φ v w')(hs: ∀i o,i<m->l[i]? =some o-> ∃Φ,H[i]? =some Φ/\ ∀u w,G w0 w->K i w->fH (H.take i) o.after.toList u w->jP P l.toArray F (T i) o Φ Q u w)(ag: ∀o,l[m]? =some o-> ∀u w,G w0 w->K m w->(∀(j:Nat) (Φ:Θ->ω->Prop),H[j]? =some Φ->Φ (u j) w)->aF o (ψ l.toArray (F u).tmps)=true/\ ∀aa:Act->ω->Prop,(∀a w',Q .normal a w'->aa a w')->o.wp P (F u) w aa Q)(ai:m=l.length-> ∀u w,G w0 w->(∀(j:Nat) (Φ:Θ->ω->Prop),H[j]? =some Φ->Φ (u j) w)->Q .normal (F u) w):(Code.region id l.toArray true).wp P Q a w0:=by
 have Y: ∀ {j:Nat} {Φ:Θ->ω->Prop},H[j]? =some Φ->(H.mapIdx gI)[j]? =some (gI j Φ):=λh=>by rw[List.getElem?_mapIdx,h];rfl
 have ac: ∀ {u:Nat->Θ} {w:ω},(∀(j:Nat) (Φ:(Nat->Θ)->ω->Prop),(H.mapIdx gI)[j]? =some Φ->Φ u w)-> ∀(j:Nat) (Φ:Θ->ω->Prop),H[j]? =some Φ->Φ (u j) w:=λh j Φ J=>h j _ (Y J);refine Jr G Zi VJ T VK K ad (λi j w w' U _=>Ci i j w w' U) O lX am hB hap m hm af (H.mapIdx gI) (by simpa using ak) ?_ ?_ (λo Z u w M hp hv=>ag o Z u w M hp (ac hv)) (λe u w M hv=>ai e u w M (ac hv))
 .intro i j Φ U hi _ J u w V;rw[List.getElem?_mapIdx]at J;cases hq:H[j]? with
  |none=>rw[hq]at J;cases J
  |some ap=>rw[hq]at J;simp only[eF,aO]at J;subst J;unfold gI at V |-;simp only[jH u _ (λe=>U e.symm)];exact⟨V,λv w' ht=>an i j ap U hi hq _ _ _ V ht⟩
 .intro i o hi Z;obtain⟨Φ,h1,h2⟩:=hs i o hi Z;refine⟨_,Y h1,λu w M hp hw=>Js (h2 u w M hp λe he ae Vs N=>?_)⟩;refine hw e he ae (gI e.on Vs) ?_;have al:e.on<i:=by rcases eu e.on i with h |h;(.exact h);.rw[dQ (by simp;omega)]at N;cases N
  rw[dG al]at N |-;exact Y N
def arX{l:List ο}{m:Nat}: ∀i o,i<m->l[i]? =some o->(l.map (·.dst))[i]? =some o.dst:=λi o _ j=>by simp[j]
def Lex (P:χ) (ops:Array ο) (F:(Nat->Θ)->Act) (w0:ω) (Q:Exit->Act->ω->Prop):List ο->Nat->List (Θ->ω->Prop)->Prop:=abn (fun _ o jU Φ=>Ey Φ/\ ∀u w,w0 w->fH jU o.after.toList u w->qR P ops F o Φ Q u w) (fun jU=> ∀u w,w0 w->(∀(i:Nat) (Φ:Θ->ω->Prop),jU[i]? =some Φ->Φ (u i) w)->Q .normal (F u) w)
def iM{id:Nat}{l:List ο}{a:Act}(F:(Nat->Θ)->Act)(lX: ∀u,aq9 u (l.map (·.dst)) 0 a=F u)(hm:P.follows .mixedOrders=true)(hB:uO l.toArray=true)(hap:arl (l.map (·.dst))=true)(h:Lex P l.toArray F w0 Q l 0 []):(Code.region id l.toArray true).wp P Q a w0:=by
 obtain⟨Z,j,_,H,O⟩:=sG l 0 [] rfl h;simp only[aJ]at j H;refine yD (λa b=>a b) (λ_=>⟨rfl,rfl,rfl,aW _,λ_ _=>rfl⟩) (λ_ _ _=>gZ) (λ_ a b=>a b) (λ_ _ _ h=>h) (λ_ _=>True) (λ_=>trivial) (λ_ _ _ _ _ _ _=>trivial) _ lX hm hB hap _ (.inl rfl) arX Z j ?_ (λi o _ J=>by obtain⟨Φ,a,b⟩:=H i o J;exact⟨Φ,a,λu w U _=>b.2 u w U⟩) (λo J=>by simp at J) λ_=>O;intro i K Φ _ _ M v w w' N Y;have V:K<l.length:=by rw[<-j];exact(aX.1 M).1
 obtain⟨Vs,q1,q2,_⟩:=H K l[K] (by simp[V]);rw[M]at q1;injection q1 with q1;subst q1;exact q2 _ _ _ N Y
def Lex.is{o:ο}{rest:List ο}{i:Nat}{j:List (Θ->ω->Prop)}{c:Θ}(h: ∀u w,w0 w->fH j o.after.toList u w->qR P ops F o (Is c) Q u w)(r:Lex P ops F w0 Q rest (i+1) (j++ [Is c])):Lex P ops F w0 Q (o::rest) i j:=⟨Is c,⟨Jo c,h⟩,r⟩
def Lex.word{o:ο}{rest:List ο}{i:Nat}{j:List (Θ->ω->Prop)}(Φ:Θ->ω->Prop)(H:Ey Φ)(h: ∀u w,w0 w->fH j o.after.toList u w->qR P ops F o Φ Q u w)(r:Lex P ops F w0 Q rest (i+1) (j++ [Φ])):Lex P ops F w0 Q (o::rest) i j:=⟨Φ,⟨H,h⟩,r⟩
def Lex.nil{i:Nat}{H:List (Θ->ω->Prop)}(h: ∀u w,w0 w->(∀(j:Nat) (Φ:Θ->ω->Prop),H[j]? =some Φ->Φ (u j) w)->Q .normal (F u) w):Lex P ops F w0 Q [] i H:=h
def fF{o:ο}{Φ:Θ->ω->Prop}{u:Nat->Θ}{w:ω}(H:aF o (ψ ops (F u).tmps)=true)(h: ∀j:Act->ω->Prop,(∀v w',w w'->Φ v w'->j ((F u).put o.dst v) w')->o.wp P (F u) w j Q):qR P ops F o Φ Q u w:=by unfold qR jP;rw[Υ H];exact h
def wG{o:ο}{Φ:Θ->ω->Prop}{u:Nat->Θ}{w:ω}(j:aF o (ψ ops (F u).tmps)=false)(h:Φ υ w):qR P ops F o Φ Q u w:=by unfold qR jP;rw[Ξ (by rw[j];exact Bool.false_ne_true)];exact h
end
section
variable {P:χ} {ops:Array ο} {F:(Nat->Θ)->Act} {w0:ω} {Q:Exit->Act->ω->Prop}
def lI (P:χ) (ops:Array ο) (F:(Nat->Θ)->Act) (w0:ω) (Q:Exit->Act->ω->Prop):List ο->Nat->List (Θ->ω->Prop)->Prop:=abo (fun _ o jU Φ=>Ey Φ/\ ∀u w,w0 w->fH jU o.after.toList u w->qR P ops F o Φ Q u w) (fun o _ jU=> ∀u w,w0 w->(∀(i:Nat) (Φ:Θ->ω->Prop),jU[i]? =some Φ->Φ (u i) w)->aF o (ψ ops (F u).tmps)=true/\ ∀K:Act->ω->Prop,(∀a w',Q .normal a w'->K a w')->o.wp P (F u) w K Q)
def mZ{id:Nat}{l:List ο}{a:Act}(F:(Nat->Θ)->Act)(lX: ∀u,aq9 u (l.map (·.dst)) 0 a=F u)(hm:P.follows .mixedOrders=true)(hB:uO l.toArray=true)(hA:uF l.toArray=true)(hap:arl (l.map (·.dst))=true)(h:lI P l.toArray F w0 Q l 0 []):(Code.region id l.toArray true).wp P Q a w0:=by
 obtain⟨r,p,e,h⟩:=yC l 0 [] h;obtain⟨vw,H,_,J,U⟩:=sG r 0 [] rfl h;simp only[aJ]at H J;have Y:r.length+1=l.length:=by rw[e];simp
 have Z: ∀i,i<r.length->l[i]? =r[i]? :=λi hi=>by rw[e,dP hi]
 refine yD (λa b=>a b) (λ_=>⟨rfl,rfl,rfl,aW _,λ_ _=>rfl⟩) (λ_ _ _=>gZ) (λ_ a b=>a b) (λ_ _ _ h=>h) (λ_ _=>True) (λ_=>trivial) (λ_ _ _ _ _ _ _=>trivial) _ lX hm hB hap _ (.inr ⟨Y,hA⟩) arX vw H ?_ (λi o hi j=>by obtain⟨Φ,a,b⟩:=J i o (by rw[<-Z i hi];exact j);exact⟨Φ,a,λu w K _=>b.2 u w K⟩) (λo j u w K _=>?_) (λe=>by omega)
 .intro i M Φ _ _ N v w w' O ht;have V:M<r.length:=by rw[<-H];exact(aX.1 N).1
  obtain⟨Vs,q1,q2,_⟩:=J M r[M] (by simp[V]);rw[N]at q1;injection q1 with q1;subst q1;exact q2 _ _ _ O ht
 .rw[e]at j;simp at j;subst j;exact U u w K
def lI.is{o H:ο}{rest:List ο}{i:Nat}{j:List (Θ->ω->Prop)}{c:Θ}(h: ∀u w,w0 w->fH j o.after.toList u w->qR P ops F o (Is c) Q u w)(r:lI P ops F w0 Q (H::rest) (i+1) (j++ [Is c])):lI P ops F w0 Q (o::H::rest) i j:=⟨Is c,⟨Jo c,h⟩,r⟩
def lI.word{o H:ο}{rest:List ο}{i:Nat}{j:List (Θ->ω->Prop)}(Φ:Θ->ω->Prop)(J:Ey Φ)(h: ∀u w,w0 w->fH j o.after.toList u w->qR P ops F o Φ Q u w)(r:lI P ops F w0 Q (H::rest) (i+1) (j++ [Φ])):lI P ops F w0 Q (o::H::rest) i j:=⟨Φ,⟨J,h⟩,r⟩
def lI.last{o:ο}{i:Nat}{J:List (Θ->ω->Prop)}(h: ∀u w,w0 w->(∀(H:Nat) (Φ:Θ->ω->Prop),J[H]? =some Φ->Φ (u H) w)->aF o (ψ ops (F u).tmps)=true/\ ∀j:Act->ω->Prop,(∀a w',Q .normal a w'->j a w')->o.wp P (F u) w j Q):lI P ops F w0 Q [o] i J:=h
end
def qU{P:χ}(w:ω)(g i:Nat)(t ty:τ)(old:Array Θ)(v:Θ)(J:fK w g t old)(hi:i<old.size)(K:(P.info? ty).map (·.size)=some 1)(H:v.oneCell'=true):(storeVar ty ⟨g,i,none⟩ v).run P w=.ok () (w.setCell ⟨g,i,none⟩ v):=by
 have hc:v.cells= #[v]:=by cases v <;> first |rfl |cases H
 have N:w.cell? ⟨g,i,none⟩=some old[i]:=by rw[J.cell];simp[hi]
 have O:=J.frozen i;cases j:P.info? ty with
 |none=>simp[j]at K
 |some V=>
  have U:V.size=1:=by simpa[j] using K
  have M:Addr.add ⟨g,i,none⟩ 0=⟨g,i,none⟩:=by simp[Addr.add]
  simp[storeVar,sizeOf,typeInfo,j,hc,U,storeCells,run_store,H,N,O,M]
def jZ{P:χ}{ops:Array ο}{rest:List ο}{o:ο}{a:Act}{w:ω}{Q:Exit->Act->ω->Prop}(K:o.guard=none)(ty:τ)(x y:κ)(N:o.op=.store ty x y)(g:Nat)(cells:Array Θ)(U:a.eval x=.pointer g)(V:a.eval y=cells)(t:τ)(old:Array Θ)(j:fK w g t old)(hi:(P.info? ty).map (·.size)=some cells.size)(O:old.size=cells.size)(H:cells.all (·.oneCell')=true)(B:Nat)(w0:ω)(J:Below B w0 w)(hB:B<=g)(h: ∀W:ω,fK W g t cells->Below B w0 W->W.heap.size=w.heap.size->(∀k,k≠g->W.heap[k]? =w.heap[k]?)->Δ P ops Q rest (a.put o.dst υ) W):Δ P ops Q (o::rest) a w:=wpList_store_row K ty x y N g cells U V t old j hi O H (h _ (fK.row j _) (jk J hB _) (by simp) λk M=>ζ w g k cells M)
section
variable {P:χ} (w:ω) (src dst:τ)
def Rz(a:BitVec 64)(h:a.toNat<9223372036854775808)(J:(P.underlying src).isSome=true)(j:P.underlying dst=some (.int .i64)):(convert src dst (q64 a)).run P w=.ok a.toNat w:=by
 obtain⟨d,H⟩:=Option.isSome_iff_exists.mp J;have e:IntKind.i64.wrap (a.toNat:Int)=(a.toNat:Int):=by rw[IntKind.wrap_i64];omega
 simp[q64,convert,ν H,ν j,Conv.intToInt,e]
end
abbrev wE:=List (Nat × Option Nat)
structure Stp (S:wE) (w w':ω):Prop where
  os:w'.os=w.os
  tape:w'.tape=w.tape
  output:w'.output=w.output
  size:w.heap.size<=w'.heap.size
  block: ∀k,k<w.heap.size->(∀o,(k,o)∉S)->w'.heap[k]? =w.heap[k]?
  shape: ∀k t cs,fK w k t cs-> ∃cs',fK w' k t cs'/\cs'.size=cs.size/\((k,none)∉S-> ∀i,(k,some i)∉S->cs'[i]? =cs[i]?)
def Stp.refl(S:wE)(w:ω):Stp S w w:=⟨rfl,rfl,rfl,aW _,λ_ _ _=>rfl,λ_ _ cs h=>⟨cs,h,rfl,λ_ _ _=>rfl⟩⟩
def Stp.drew(S:wE)(w:ω):Stp S w w.drew:=⟨rfl,rfl,rfl,aW _,λ_ _ _=>rfl,λ_ _ cs h=>⟨cs,h,rfl,λ_ _ _=>rfl⟩⟩
def Stp.trans{S:wE}{a b c:ω}(h:Stp S a b)(k:Stp S b c):Stp S a c:=⟨k.os.trans h.os,k.tape.trans h.tape,k.output.trans h.output,aG h.size k.size,λi hi hn=>(k.block i (aU hi h.size) hn).trans (h.block i hi hn),λi t cs N=>by obtain⟨c1,J,K,M⟩:=h.shape i t cs N;obtain⟨c2,k1,k2,k3⟩:=k.shape i t c1 J;exact⟨c2,k1,k2.trans K,λhn H j=>(k3 hn H j).trans (M hn H j)⟩⟩
def Stp.mono{S S':wE}{w w':ω}(h:Stp S w w')(j: ∀x,x∈S->x∈S'):Stp S' w w':=⟨h.os,h.tape,h.output,h.size,λk O hn=>h.block k O (λo U=>hn o (j _ U)),λk t cs N=>by obtain⟨c1,J,K,M⟩:=h.shape k t cs N;exact⟨c1,J,K,λhn i hi=>M (λH=>hn (j _ H)) i (λH=>hi (j _ H))⟩⟩
def Stp.of_below{w w':ω}(h:w w')(S:wE):Stp S w w':=⟨h.os,h.tape,h.output,h.size,λk H _=>h.block k H,λ_ _ cs j=>⟨cs,j.below h j.lt,rfl,λ_ _ _=>rfl⟩⟩
def Stp.cell{w:ω}(g i:Nat)(v:Θ):Stp [(g,some i)] w (w.setCell ⟨g,i,none⟩ v):=by
 refine⟨rfl,rfl,rfl,by simp[dD],λk _ hn=>aN w _ v k (λe=>hn (some i) (by simp at e;simp[e])),λk t cs j=>?_⟩;by_cases H:k=g;.subst H;exact⟨_,j.iV i v,by simp,λ_ K J=>by have:i≠K:=λe=>J (by simp[e]);simp[dR this]⟩
 .exact⟨cs,j.far (p:=⟨g,i,none⟩) H v,rfl,λ_ _ _=>rfl⟩
def Stp.row{w:ω}(g:Nat)(t:τ)(old cs:Array Θ)(H:fK w g t old)(K:old.size=cs.size):Stp [(g,none)] w (w.setRow g cs):=by
 refine⟨rfl,rfl,rfl,by simp,λk _ hn=>ζ w g k cs (λe=>hn none (by simp[e])),λk M c0 j=>?_⟩;by_cases J:k=g
 .subst J;have:M=t/\c0=old:=by unfold fK at H j;rw[H]at j;simp at j;exact⟨j.2.symm,j.1.symm⟩
  obtain⟨rfl,rfl⟩:=this;exact⟨cs,H.row cs,K.symm,λhn=>absurd (by simp) hn⟩
 .exact⟨c0,j.OW J cs,rfl,λ_ _ _=>rfl⟩
def Stp.blk{S:wE}{w w':ω}(h:Stp S w w'){g:Nat}{t:τ}{cs:Array Θ}(j:fK w g t cs)(hn: ∀o,(g,o)∉S):fK w' g t cs:=(h.block g j.lt hn).trans j
def uG (g n i:Nat) (t:τ) (v:Θ):Θ->ω->Prop:=fun _ w=> ∃cs,fK w g t cs/\cs.size=n/\cs[i]? =some v
def uG.keep{S:wE}{w w':ω}{g n i:Nat}{t:τ}{v x:Θ}(h:uG g n i t v x w)(K:Stp S w w')(j:(g,none)∉S)(H:(g,some i)∉S):uG g n i t v x w':=by obtain⟨cs,J,hn,hi⟩:=h;obtain⟨c2,k1,k2,k3⟩:=K.shape g t cs J;exact⟨c2,k1,k2.trans hn,(k3 j i H).trans hi⟩
def Stp.below{S:wE}{w w':ω}{B:Nat}(h:Stp S w w')(hB:B<=w.heap.size)(j: ∀k o,(k,o)∈S->B<=k):Below B w w':=⟨h.os,h.tape,h.output,h.size,λk J=>h.block k (by omega) (λo H=>by have:=j k o H;omega)⟩
def qy (x y:Nat × Option Nat):Prop:=x.1≠y.1\/ ∃i j,x.2=some i/\y.2=some j/\i≠j
def qy.symm{x y:Nat × Option Nat}(h:qy x y):qy y x:=by
 rcases h with h |⟨i,K,j,H,J⟩;.exact .inl (λe=>h e.symm)
 .exact .inr ⟨K,i,H,j,λe=>J e.symm⟩
structure W2 where
  Φ:Θ->ω->Prop
  pl:Option (Nat × Option Nat)
def W2.ok (S:wE) (x:W2):Prop:=match x.pl with
 |none=> ∀v w w',x.Φ v w->Stp S w w'->x.Φ v w'
 |some p=>p∈S/\ ∀S' v w w',(∀q,q∈S'->qy q p)->x.Φ v w->Stp S' w w'->x.Φ v w'
def W2.foot (x:W2):wE:=match x.pl with
 |none=> []
 |some p=> [p]
def W2.fit (x y:W2):Prop:= ∀p,x.pl=some p-> ∀q,y.pl=some q->qy p q
section
variable {P:χ} {ops:Array ο} {F:(Nat->Θ)->Act} {w0:ω} {Q:Exit->Act->ω->Prop} {S:wE}
def jI (P:χ) (ops:Array ο) (F:(Nat->Θ)->Act) (S:wE) (w0:ω) (Q:Exit->Act->ω->Prop):List ο->Nat->List W2->Prop:=abn (fun _ o Xs x=>x.ok S/\ ∀u w,Stp S w0 w->fH (Xs.map (·.Φ)) o.after.toList u w->jP P ops F (Stp x.foot) o x.Φ Q u w) (fun Xs=>Xs.Pairwise W2.fit/\ ∀u w,Stp S w0 w->(∀(i:Nat) (x:W2),Xs[i]? =some x->x.Φ (u i) w)->Q .normal (F u) w)
def jJ{id:Nat}{l:List ο}{a:Act}(S:wE)(F:(Nat->Θ)->Act)(lX: ∀u,aq9 u (l.map (·.dst)) 0 a=F u)(hm:P.follows .mixedOrders=true)(hB:uO l.toArray=true)(hap:arl (l.map (·.dst))=true)(h:jI P l.toArray F S w0 Q l 0 []):(Code.region id l.toArray true).wp P Q a w0:=by
 obtain⟨J,h1,_,Z,h4,h5⟩:=sG l 0 [] rfl h;simp only[aJ]at h1 Z;have ae: ∀x,x∈J->x.ok S:=λx j=>by
  obtain⟨i,hi⟩:=List.getElem?_of_mem j;have ai:i<l.length:=by rw[<-h1];exact(aX.1 hi).1
  obtain⟨y,q1,q2,_⟩:=Z i l[i] (by simp[ai]);rw[hi]at q1;injection q1 with q1;exact q1▸q2
 have ak:J.length=l.length:=by omega
 have ad: ∀x,x∈J-> ∀p,p∈x.foot->p∈S:=by
  intro x j p H;have:=ae x j;unfold W2.ok at this;unfold W2.foot at H;cases af:x.pl with
  |none=>rw[af]at H;cases H
  |some q=>rw[af]at H this;simp at H;subst H;exact this.1
 have ag: ∀(i M:Nat) (x y:W2),i≠M->J[i]? =some x->J[M]? =some y->W2.fit x y:=by
  intro i M x y aa j U;obtain⟨hi,rfl⟩:=aX.1 j;obtain⟨N,rfl⟩:=aX.1 U;rcases Nat.lt_or_gt_of_ne aa with g |g;.exact List.pairwise_iff_getElem.1 h4 i M hi N g
  .intro p H q O;exact(List.pairwise_iff_getElem.1 h4 M i N hi g q O p H).symm
 refine yD (Stp S) (Stp.drew S) (λ_ _ _=>Stp.trans) (λi w w'=>match J[i]? with |some x=>Stp x.foot w w' |none=>w'=w) ?_ (λ_ _=>True) (λ_=>trivial) (λ_ _ _ _ _ _ _=>trivial) _ lX hm hB hap _ (.inl rfl) arX (J.map (·.Φ)) (by simp;omega) ?_ ?_ (λo ho=>by simp at ho) λ_ u w hb hv=>h5 u w hb (λM x j=>hv M x.Φ (by simp[j]));.intro i w w' K;cases j:J[i]? with|none=>rw[j]at K;subst K;exact Stp.refl _ _|some x=>rw[j]at K;exact K.mono (ad x (bP j))
 .intro i M Φ aa _ N v w w' Y K;rw[bW]at N;cases U:J[M]? with
  |none=>rw[U]at N;cases N
  |some y=>
   rw[U]at N;simp only[eF,aO]at N;subst N;cases j:J[i]? with
   |none=>rw[j]at K;subst K;exact Y
   |some x=>
    rw[j]at K;have V:=ae y (bP U);unfold W2.ok at V;cases H:y.pl with
    |none=>rw[H]at V;exact V v w w' Y (K.mono (ad x (bP j)))
    |some p=>
     rw[H]at V;refine V.2 x.foot v w w' ?_ Y K;intro q O;unfold W2.foot at O;cases ac:x.pl with
     |none=>rw[ac]at O;cases O
     |some q'=>rw[ac]at O;simp at O;subst O;exact ag i M x y aa j U _ ac _ H
 .intro i o _ ho;obtain⟨x,a1,_,a2⟩:=Z i o ho;refine⟨x.Φ,by simp[a1],λu w hb _ hw=>?_⟩;have e:(λw w'=>match J[i]? with |some x=>Stp x.foot w w' |none=>w'=w)=Stp x.foot:=by funext w w';rw[a1]
  rw[e];exact a2 u w hb (by rw[List.map_take];exact hw)
def jI.word{o:ο}{rest:List ο}{i:Nat}{j:List W2}(Φ:Θ->ω->Prop)(H: ∀v w w',Φ v w->Stp S w w'->Φ v w')(h: ∀u w,Stp S w0 w->fH (j.map (·.Φ)) o.after.toList u w->jP P ops F (Stp []) o Φ Q u w)(r:jI P ops F S w0 Q rest (i+1) (j++ [⟨Φ,none⟩])):jI P ops F S w0 Q (o::rest) i j:=⟨⟨Φ,none⟩,⟨H,h⟩,r⟩
def jI.is{o:ο}{rest:List ο}{i:Nat}{j:List W2}{c:Θ}(h: ∀u w,Stp S w0 w->fH (j.map (·.Φ)) o.after.toList u w->jP P ops F (Stp []) o (Is c) Q u w)(r:jI P ops F S w0 Q rest (i+1) (j++ [⟨Is c,none⟩])):jI P ops F S w0 Q (o::rest) i j:=⟨⟨Is c,none⟩,⟨λ_ _ _ h _=>h,h⟩,r⟩
def jI.row{o:ο}{rest:List ο}{i:Nat}{J:List W2}(g:Nat)(t:τ)(cs cells:Array Θ)(V:(g,none)∈S)(N:fK w0 g t cs)(M:cs.size=cells.size)(ty:τ)(x y:κ)(ho:o.op=.store ty x y)(hi:(P.info? ty).map (·.size)=some cells.size)(O:cells.all (·.oneCell')=true)(h: ∀u w,Stp S w0 w->fH (J.map (·.Φ)) o.after.toList u w->aF o (ψ ops (F u).tmps)=true/\(F u).eval x=.pointer (some ⟨g,0,none⟩)/\(F u).eval y=.agg cells)(r:jI P ops F S w0 Q rest (i+1) (J++ [⟨λ_ w=>fK w g t cells,some (g,none)⟩])):jI P ops F S w0 Q (o::rest) i J:=by
 refine⟨⟨λ_ w=>fK w g t cells,some (g,none)⟩,⟨⟨V,?_⟩,?_⟩,r⟩
 .intro S' v w w' hap Y H;refine H.blk Y λk j=>?_;rcases hap _ j with a |⟨i,ac,_,a2,_⟩;.exact a rfl
  .cases a2
 .intro u w j Z;obtain⟨hw,hx,hy⟩:=h u w j Z;obtain⟨old,K,H,_⟩:=j.shape g t cs N;show jP P ops F (Stp [(g,none)]) o _ Q u w;unfold jP;rw[Υ hw];intro aa U;exact η ty x y ho g cells hx hy t old K hi (H.trans M) O (U υ _ (Stp.row g t old cells K (H.trans M)) (fK.row K _))
def jI.an9{o:ο}{rest:List ο}{i:Nat}{K:List W2}(g:Nat)(t:τ)(cs:Array Θ)(R:Array Θ->Prop)(Z:(g,none)∈S)(O:fK w0 g t cs)(ty:τ)(x y:κ)(ho:o.op=.store ty x y)(Y: ∀cells,R cells->cs.size=cells.size/\(P.info? ty).map (·.size)=some cells.size/\cells.all (·.oneCell')=true)(h: ∀u w,Stp S w0 w->fH (K.map (·.Φ)) o.after.toList u w->aF o (ψ ops (F u).tmps)=true/\(F u).eval x=.pointer (some ⟨g,0,none⟩)/\ ∃cells,R cells/\(F u).eval y=.agg cells)(r:jI P ops F S w0 Q rest (i+1) (K++ [⟨λ_ w=> ∃cells,R cells/\fK w g t cells,some (g,none)⟩])):jI P ops F S w0 Q (o::rest) i K:=by
 refine⟨⟨λ_ w=> ∃cells,R cells/\fK w g t cells,some (g,none)⟩,⟨⟨Z,?_⟩,?_⟩,r⟩
 .rintro S' v w w' hap⟨cells,H,hb⟩ J;refine⟨cells,H,J.blk hb λk j=>?_⟩;rcases hap _ j with a |⟨i,ac,_,a2,_⟩;.exact a rfl
  .cases a2
 .intro u w j hd;obtain⟨hw,hx,cells,H,hy⟩:=h u w j hd;obtain⟨N,hi,U⟩:=Y cells H;obtain⟨old,M,J,_⟩:=j.shape g t cs O;show jP P ops F (Stp [(g,none)]) o _ Q u w;unfold jP;rw[Υ hw];intro aa V;exact η ty x y ho g cells hx hy t old M hi (J.trans N) U (V υ _ (Stp.row g t old cells M (J.trans N)) ⟨cells,H,fK.row M _⟩)
def abq{S:wE}{w W:ω}{g n:Nat}{t:τ}{cs:Array Θ}(M:Stp S w W)(J:fK w g t cs)(new:Array Θ)(hn:new.size=cs.size)(N:(g,none)∉S)(h: ∀i,i<new.size->(new[i]? =cs[i]? /\(g,some i)∉S)\/ ∃v,new[i]? =some v/\uG g n i t v υ W):fK W g t new:=by
 obtain⟨cs',j,O,K⟩:=M.shape g t cs J;have:cs'=new:=by
  apply Array.ext_getElem?;intro i;by_cases hi:i<new.size;.rcases h i hi with⟨a,b⟩ |⟨v,a,H,b,_,c⟩;(.rw[K N i b,a]);·(have e:H=cs':=by unfold fK at b j;rw[j]at b;simp at b;exact b.symm);rw[a,<-e,c]
  .rw[dI (by omega),dI (by omega)]
 rw[<-this];exact j
def jI.cell{o:ο}{rest:List ο}{i:Nat}{J:List W2}(g n j:Nat)(t:τ)(cs:Array Θ)(v:Θ)(Y:(g,some j)∈S)(O:fK w0 g t cs)(hn:cs.size=n)(hj:j<n)(ty:τ)(x y:κ)(ho:o.op=.store ty x y)(hi:(P.info? ty).map (·.size)=some 1)(U:v.oneCell'=true)(h: ∀u w,Stp S w0 w->fH (J.map (·.Φ)) o.after.toList u w->aF o (ψ ops (F u).tmps)=true/\(F u).eval x=.pointer (some ⟨g,j,none⟩)/\(F u).eval y=v)(r:jI P ops F S w0 Q rest (i+1) (J++ [⟨uG g n j t v,some (g,some j)⟩])):jI P ops F S w0 Q (o::rest) i J:=by
 refine⟨⟨uG g n j t v,some (g,some j)⟩,⟨⟨Y,?_⟩,?_⟩,r⟩
 .intro S' x w w' hap Z N;refine uG.keep (x:=x) Z N ?_ ?_;.intro hm;rcases hap _ hm with a |⟨_,_,H,_,_⟩;(.exact a rfl);.cases H
  .intro hm;rcases hap _ hm with a |⟨_,_,H,a2,a3⟩;(.exact a rfl);.injection H with H;injection a2 with a2;exact a3 (H.symm.trans a2)
 .intro u w M hd;obtain⟨hw,hx,hy⟩:=h u w M hd;obtain⟨old,K,N,_⟩:=M.shape g t cs O;show jP P ops F (Stp [(g,some j)]) o _ Q u w;unfold jP;rw[Υ hw];intro ac V;have aa:=qU (P:=P) w g j t ty old v K (by omega) hi U;unfold Oper.wp execOp;simp only[ho,hx,hy,Instr.storeAt,Instr.sureAddr,Sem.run_bind,Sem.run_pure,dO,aa];exact V υ _ (Stp.cell g j v) ⟨_,K.iV j v,by rw[Array.size_setIfInBounds];omega,Array.getElem?_setIfInBounds_self_of_lt (by omega)⟩
def jI.nil{i:Nat}{j:List W2}(H:j.Pairwise W2.fit)(h: ∀u w,Stp S w0 w->(∀(i:Nat) (x:W2),j[i]? =some x->x.Φ (u i) w)->Q .normal (F u) w):jI P ops F S w0 Q [] i j:=⟨H,h⟩
def fC{o:ο}{Φ:Θ->ω->Prop}{u:Nat->Θ}{w:ω}{T:ω->ω->Prop}(H:aF o (ψ ops (F u).tmps)=true)(h: ∀j:Act->ω->Prop,(∀v w',T w w'->Φ v w'->j ((F u).put o.dst v) w')->o.wp P (F u) w j Q):jP P ops F T o Φ Q u w:=by unfold jP;rw[Υ H];exact h
end
def arh:Array Θ->Nat->List Θ->Array Θ
 |a,_,[]=>a
 |a,o,v::vs=>arh (a.setIfInBounds o v) (o+1) vs
def fK.yE{g:Nat}{t:τ}: ∀(vs:List Θ) (o:Nat) (cs:Array Θ) (w:ω),fK w g t cs->fK (w.setCells g o vs) g t (arh cs o vs)
 | [],_,_,_,h=>h
 |v::vs,o,cs,w,h=>fK.yE vs (o+1) (cs.setIfInBounds o v) (w.setCell ⟨g,o,none⟩ v) (h.iV o v)
def jX(g:Nat): ∀(vs:List Θ) (o:Nat) (w:ω),(w.setCells g o vs).heap.size=w.heap.size/\(∀k,k≠g->(w.setCells g o vs).heap[k]? =w.heap[k]?)/\(w.setCells g o vs).os=w.os/\(w.setCells g o vs).tape=w.tape/\(w.setCells g o vs).output=w.output
 | [],_,_=>⟨rfl,λ_ _=>rfl,rfl,rfl,rfl⟩
 |v::vs,o,w=>by obtain⟨H,J,K,M,N⟩:=jX g vs (o+1) (w.setCell ⟨g,o,none⟩ v);refine⟨H.trans (by simp[dD]),λk j=>(J k j).trans (aN w ⟨g,o,none⟩ v k j),K,M,N⟩
def zQ{P:χ}{ops:Array ο}{rest:List ο}{o:ο}{a:Act}{w:ω}{Q:Exit->Act->ω->Prop}(Y:o.guard=none)(ty:τ)(x y:κ)(Z:o.op=.store ty x y)(g i:Nat)(cells:Array Θ)(hx:a.eval x=.pointer (some ⟨g,i,none⟩))(hy:a.eval y=cells)(t:τ)(old:Array Θ)(j:fK w g t old)(hi:(P.info? ty).map (·.size)=some cells.size)(aa:i+cells.size<=old.size)(K:cells.all (·.oneCell')=true)(B:Nat)(w0:ω)(V:Below B w0 w)(hB:B<=g)(h: ∀W:ω,fK W g t (arh old i cells.toList)->Below B w0 W->W.heap.size=w.heap.size->(∀k,k≠g->W.heap[k]? =w.heap[k]?)->Δ P ops Q rest (a.put o.dst υ) W):Δ P ops Q (o::rest) a w:=by
 obtain⟨M,H,N,O,U⟩:=jX g cells.toList i w;refine wpList_store_mid Y ty x y Z g i cells hx hy ?_ hi K (h _ (fK.yE cells.toList i old w j) (V.trans ⟨N,O,U,by omega,λk hk=>H k (by omega)⟩) M H);intro J hj;have hc:w.cell? ⟨g,i+J,none⟩=some (old[i+J]'(by omega)):=by rw[j.cell];simp
 exact⟨by rw[hc];rfl,j.frozen _⟩
abbrev Bk:=Nat × τ × Array Θ
structure Own (w W:ω) (L:List Bk):Prop where
  below:w W
  blk: ∀x,x∈L->w.heap.size<=x.1/\fK W x.1 x.2.1 x.2.2
  nodup:(L.map (·.1)).Nodup
def Own.grow{w W W':ω}{L:List Bk}(h:Own w W L)(H:W W'):Own w W' L:=⟨h.below.trans (H.mono h.below.size),λx j=>⟨(h.blk x j).1,(h.blk x j).2.below H (h.blk x j).2.lt⟩,h.nodup⟩
def Own.alloc{w W:ω}{L:List Bk}(h:Own w W L)(t:τ)(cs:Array Θ)(g:Nat)(K:g=W.heap.size):Own w (W.alloc (.cells cs t)) (L++ [(g,t,cs)]):=by
 subst K;refine⟨h.below.alloc h.below.size _,?_,?_⟩
 .intro x j;rcases dK.1 j with a |a;.exact⟨(h.blk x a).1,(h.blk x a).2.alloc _⟩
  .simp at a;subst a;exact⟨h.below.size,fK.new _ _ _⟩
 .rw[eX,List.nodup_append];refine⟨h.nodup,by simp,?_⟩;intro a H b J;simp at J;subst J;simp only[List.mem_map]at H;obtain⟨x,j,rfl⟩:=H;have:=(h.blk x j).2.lt;omega
def Own.nil(w:ω):Own w w []:=⟨aH _ _,λ_ j=>absurd j dH,List.nodup_nil⟩
def Own.with{w W W':ω}{L1 L2:List Bk}{g:Nat}{t:τ}{old cs:Array Θ}(h:Own w W (L1++(g,t,old)::L2))(K:w W')(M:fK W' g t cs)(H: ∀k,k≠g->W'.heap[k]? =W.heap[k]?):Own w W' (L1++(g,t,cs)::L2):=by
 have J:=h.nodup;rw[eX,List.map_cons,List.nodup_append]at J;obtain⟨n1,n2,n3⟩:=J;rw[List.nodup_cons]at n2;have far: ∀x,x∈L1\/x∈L2->x.1≠g:=by
  rintro x (j |j) e;.exact n3 x.1 (List.mem_map_of_mem j) g (by simp) e
  .have hm:x.1∈L2.map (·.1):=List.mem_map_of_mem j;rw[e]at hm;exact n2.1 hm
 refine⟨K,?_,?_⟩
 .intro x j;rcases dK.1 j with a |a;.have:=h.blk x (by simp[a]);exact⟨this.1,(H _ (far x (.inl a))).trans this.2⟩
  .rcases bJ.1 a with rfl |a;(.exact⟨(h.blk (g,t,old) (by simp)).1,M⟩);.have:=h.blk x (by simp[a]);exact⟨this.1,(H _ (far x (.inr a))).trans this.2⟩
 .have:=h.nodup;simpa using this
def Own.at_{w W:ω}{L1 L2:List Bk}{g:Nat}{t:τ}{cs:Array Θ}(h:Own w W (L1++(g,t,cs)::L2)):fK W g t cs:=(h.blk (g,t,cs) (by simp)).2
def Own.lo{w W:ω}{L1 L2:List Bk}{g:Nat}{t:τ}{cs:Array Θ}(h:Own w W (L1++(g,t,cs)::L2)):w.heap.size<=g:=(h.blk (g,t,cs) (by simp)).1
def Own.after{w W W':ω}{L j:List Bk}{S:wE}(h:Own w W L)(N:Stp S W W')(K: ∀k o,(k,o)∈S->w.heap.size<=k)(H:j.map (·.1)=L.map (·.1))(M: ∀x,x∈j->fK W' x.1 x.2.1 x.2.2):Own w W' j:=by
 refine⟨h.below.trans (N.below h.below.size K),?_,by rw[H];exact h.nodup⟩;intro x J;have:x.1∈L.map (·.1):=by rw[<-H];exact List.mem_map_of_mem J
 simp only[List.mem_map]at this;obtain⟨y,O,e⟩:=this;exact⟨e▸(h.blk y O).1,M x J⟩
section
variable {P:χ} {ops:Array ο} {rest:List ο} {o:ο} {a:Act} {w W:ω} {Q:Exit->Act->ω->Prop}
def ng{L1 L2:List Bk}{g:Nat}{t:τ}{old:Array Θ}(cells:Array Θ)(j:Own w W (L1++(g,t,old)::L2))(N:o.guard=none)(x y:κ)(O:o.op=.store t x y)(V:a.eval x=.pointer g)(Y:a.eval y=cells)(hi:(P.info? t).map (·.size)=some cells.size)(U:old.size=cells.size)(J:cells.all (·.oneCell')=true)(h: ∀W':ω,Own w W' (L1++(g,t,cells)::L2)->W'.heap.size=W.heap.size->(∀k,k≠g->W'.heap[k]? =W.heap[k]?)->Δ P ops Q rest (a.put o.dst υ) W'):Δ P ops Q (o::rest) a W:=jZ N t x y O g cells V Y t old j.at_ hi U J w w j.below j.lo λW' M K Z H=>h W' (j.with K M H) Z H
def uH{L1 L2:List Bk}{g:Nat}{t:τ}{old:Array Θ}(i:Nat)(v:Θ)(j:Own w W (L1++(g,t,old)::L2))(N:o.guard=none)(ty:τ)(x y:κ)(U:o.op=.store ty x y)(Y:a.eval x=.pointer (some ⟨g,i,none⟩))(Z:a.eval y=v)(hi:(P.info? ty).map (·.size)=some 1)(O:i<old.size)(K:v.oneCell'=true)(h: ∀W':ω,Own w W' (L1++(g,t,old.setIfInBounds i v)::L2)->W'.heap.size=W.heap.size->(∀k,k≠g->W'.heap[k]? =W.heap[k]?)->Δ P ops Q rest (a.put o.dst υ) W'):Δ P ops Q (o::rest) a W:=by have J:=j.at_;refine π N λaa M=>?_;have V:=qU (P:=P) W g i t ty old v J O hi K;unfold Oper.wp execOp;simp only[U,Y,Z,Instr.storeAt,Instr.sureAddr,Sem.run_bind,Sem.run_pure,dO,V];have H: ∀k,k≠g->(W.setCell ⟨g,i,none⟩ v).heap[k]? =W.heap[k]? :=λk H=>aN W ⟨g,i,none⟩ v k H;exact M _ _ (h _ (j.with (j.below.setCell (p:=⟨g,i,none⟩) j.lo v) (J.iV i v) H) (by simp[dD]) H)
def vK{L1 L2:List Bk}{g:Nat}{t:τ}{old:Array Θ}(i:Nat)(cells:Array Θ)(j:Own w W (L1++(g,t,old)::L2))(N:o.guard=none)(ty:τ)(x y:κ)(O:o.op=.store ty x y)(V:a.eval x=.pointer (some ⟨g,i,none⟩))(Y:a.eval y=cells)(hi:(P.info? ty).map (·.size)=some cells.size)(U:i+cells.size<=old.size)(J:cells.all (·.oneCell')=true)(h: ∀W':ω,Own w W' (L1++(g,t,arh old i cells.toList)::L2)->W'.heap.size=W.heap.size->(∀k,k≠g->W'.heap[k]? =W.heap[k]?)->Δ P ops Q rest (a.put o.dst υ) W'):Δ P ops Q (o::rest) a W:=zQ N ty x y O g i cells V Y t old j.at_ hi U J w w j.below j.lo λW' M K Z H=>h W' (j.with K M H) Z H
def arP(H:aF o (ψ ops a.tmps)=true)(h: ∀j:Act->ω->Prop,(∀a w,Δ P ops Q rest a w->j a w)->o.wp P a W j Q):Δ P ops Q (o::rest) a W:=by unfold Δ;rw[Υ H];exact .inl (h _ λ_ _ h=>h)
def lK{L1 L2:List Bk}{g:Nat}{t:τ}{cs:Array Θ}(H:Own w W (L1++(g,t,cs)::L2))(N:aF o (ψ ops a.tmps)=true)(x:κ)(K:o.op=.load t x)(O:a.eval x=.pointer g)(d:TypeDesc)(M:P.underlying t=some d)(J:(match d with | .struct _ | .array _ _=>true |_=>false)=true)(hi:(P.info? t).map (·.size)=some cs.size)(h:Δ P ops Q rest (a.put o.dst cs) W):Δ P ops Q (o::rest) a W:=arP N λ_ j=>ι t x K g O t cs (0,0) d H.at_ M J hi (j _ _ h)
def gK{L:List Bk}{g:Nat}{t:τ}{cs:Array Θ}(j:Own w W ((g,t,cs)::L))(M:aF o (ψ ops a.tmps)=true)(x:κ)(J:o.op=.load t x)(N:a.eval x=.pointer g)(d:TypeDesc)(K:P.underlying t=some d)(H:(match d with | .struct _ | .array _ _=>true |_=>false)=true)(hi:(P.info? t).map (·.size)=some cs.size)(h:Δ P ops Q rest (a.put o.dst cs) W):Δ P ops Q (o::rest) a W:=lK (L1:= []) j M x J N d K H hi h
def oG{L:List Bk}{g:Nat}{t:τ}{old:Array Θ}(cells:Array Θ)(H:Own w W ((g,t,old)::L))(J:o.guard=none)(x y:κ)(K:o.op=.store t x y)(N:a.eval x=.pointer g)(O:a.eval y=cells)(hi:(P.info? t).map (·.size)=some cells.size)(M:old.size=cells.size)(j:cells.all (·.oneCell')=true)(h: ∀W':ω,Own w W' ((g,t,cells)::L)->W'.heap.size=W.heap.size->(∀k,k≠g->W'.heap[k]? =W.heap[k]?)->Δ P ops Q rest (a.put o.dst υ) W'):Δ P ops Q (o::rest) a W:=ng (L1:= []) cells H J x y K N O hi M j h
def jq{L:List Bk}{g:Nat}{t:τ}{old:Array Θ}(i:Nat)(u:Θ)(H:Own w W ((g,t,old)::L))(J:o.guard=none)(ty:τ)(x y:κ)(M:o.op=.store ty x y)(N:a.eval x=.pointer (some ⟨g,i,none⟩))(O:a.eval y=u)(hi:(P.info? ty).map (·.size)=some 1)(K:i<old.size)(j:u.oneCell'=true)(h: ∀W':ω,Own w W' ((g,t,old.setIfInBounds i u)::L)->W'.heap.size=W.heap.size->(∀k,k≠g->W'.heap[k]? =W.heap[k]?)->Δ P ops Q rest (a.put o.dst υ) W'):Δ P ops Q (o::rest) a W:=uH (L1:= []) i u H J ty x y M N O hi K j h
def ni{L:List Bk}{g:Nat}{t:τ}{old:Array Θ}(i:Nat)(cells:Array Θ)(H:Own w W ((g,t,old)::L))(J:o.guard=none)(ty:τ)(x y:κ)(K:o.op=.store ty x y)(N:a.eval x=.pointer (some ⟨g,i,none⟩))(O:a.eval y=cells)(hi:(P.info? ty).map (·.size)=some cells.size)(M:i+cells.size<=old.size)(j:cells.all (·.oneCell')=true)(h: ∀W':ω,Own w W' ((g,t,arh old i cells.toList)::L)->W'.heap.size=W.heap.size->(∀k,k≠g->W'.heap[k]? =W.heap[k]?)->Δ P ops Q rest (a.put o.dst υ) W'):Δ P ops Q (o::rest) a W:=vK (L1:= []) i cells H J ty x y K N O hi M j h
def Own.b0{L:List Bk}{g:Nat}{t:τ}{cs:Array Θ}(j:Own w W ((g,t,cs)::L)):fK W g t cs:=Own.at_ (L1:= []) j
def iQ{j:Bk}{L:List Bk}{g:Nat}{t:τ}{cs:Array Θ}(H:Own w W (j::(g,t,cs)::L))(N:aF o (ψ ops a.tmps)=true)(x:κ)(K:o.op=.load t x)(O:a.eval x=.pointer g)(d:TypeDesc)(M:P.underlying t=some d)(J:(match d with | .struct _ | .array _ _=>true |_=>false)=true)(hi:(P.info? t).map (·.size)=some cs.size)(h:Δ P ops Q rest (a.put o.dst cs) W):Δ P ops Q (o::rest) a W:=lK (L1:= [j]) H N x K O d M J hi h
def kY{j:Bk}{L:List Bk}{g:Nat}{t:τ}{old:Array Θ}(cells:Array Θ)(J:Own w W (j::(g,t,old)::L))(K:o.guard=none)(x y:κ)(M:o.op=.store t x y)(O:a.eval x=.pointer g)(U:a.eval y=cells)(hi:(P.info? t).map (·.size)=some cells.size)(N:old.size=cells.size)(H:cells.all (·.oneCell')=true)(h: ∀W':ω,Own w W' (j::(g,t,cells)::L)->W'.heap.size=W.heap.size->(∀k,k≠g->W'.heap[k]? =W.heap[k]?)->Δ P ops Q rest (a.put o.dst υ) W'):Δ P ops Q (o::rest) a W:=ng (L1:= [j]) cells J K x y M O U hi N H h
def abr{j:Bk}{L:List Bk}{g:Nat}{t:τ}{old:Array Θ}(i:Nat)(cells:Array Θ)(J:Own w W (j::(g,t,old)::L))(K:o.guard=none)(ty:τ)(x y:κ)(M:o.op=.store ty x y)(O:a.eval x=.pointer (some ⟨g,i,none⟩))(U:a.eval y=cells)(hi:(P.info? ty).map (·.size)=some cells.size)(N:i+cells.size<=old.size)(H:cells.all (·.oneCell')=true)(h: ∀W':ω,Own w W' (j::(g,t,arh old i cells.toList)::L)->W'.heap.size=W.heap.size->(∀k,k≠g->W'.heap[k]? =W.heap[k]?)->Δ P ops Q rest (a.put o.dst υ) W'):Δ P ops Q (o::rest) a W:=vK (L1:= [j]) i cells J K ty x y M O U hi N H h
def Own.b1{j:Bk}{L:List Bk}{g:Nat}{t:τ}{cs:Array Θ}(H:Own w W (j::(g,t,cs)::L)):fK W g t cs:=Own.at_ (L1:= [j]) H
def mJ{j H:Bk}{L:List Bk}{g:Nat}{t:τ}{cs:Array Θ}(J:Own w W (j::H::(g,t,cs)::L))(O:aF o (ψ ops a.tmps)=true)(x:κ)(M:o.op=.load t x)(U:a.eval x=.pointer g)(d:TypeDesc)(N:P.underlying t=some d)(K:(match d with | .struct _ | .array _ _=>true |_=>false)=true)(hi:(P.info? t).map (·.size)=some cs.size)(h:Δ P ops Q rest (a.put o.dst cs) W):Δ P ops Q (o::rest) a W:=lK (L1:= [j,H]) J O x M U d N K hi h
def jv{j H:Bk}{L:List Bk}{g:Nat}{t:τ}{old:Array Θ}(cells:Array Θ)(K:Own w W (j::H::(g,t,old)::L))(M:o.guard=none)(x y:κ)(N:o.op=.store t x y)(U:a.eval x=.pointer g)(V:a.eval y=cells)(hi:(P.info? t).map (·.size)=some cells.size)(O:old.size=cells.size)(J:cells.all (·.oneCell')=true)(h: ∀W':ω,Own w W' (j::H::(g,t,cells)::L)->W'.heap.size=W.heap.size->(∀k,k≠g->W'.heap[k]? =W.heap[k]?)->Δ P ops Q rest (a.put o.dst υ) W'):Δ P ops Q (o::rest) a W:=ng (L1:= [j,H]) cells K M x y N U V hi O J h
def Nu{j H:Bk}{L:List Bk}{g:Nat}{t:τ}{old:Array Θ}(i:Nat)(u:Θ)(K:Own w W (j::H::(g,t,old)::L))(M:o.guard=none)(ty:τ)(x y:κ)(O:o.op=.store ty x y)(U:a.eval x=.pointer (some ⟨g,i,none⟩))(V:a.eval y=u)(hi:(P.info? ty).map (·.size)=some 1)(N:i<old.size)(J:u.oneCell'=true)(h: ∀W':ω,Own w W' (j::H::(g,t,old.setIfInBounds i u)::L)->W'.heap.size=W.heap.size->(∀k,k≠g->W'.heap[k]? =W.heap[k]?)->Δ P ops Q rest (a.put o.dst υ) W'):Δ P ops Q (o::rest) a W:=uH (L1:= [j,H]) i u K M ty x y O U V hi N J h
def abt{j H:Bk}{L:List Bk}{g:Nat}{t:τ}{old:Array Θ}(i:Nat)(cells:Array Θ)(K:Own w W (j::H::(g,t,old)::L))(M:o.guard=none)(ty:τ)(x y:κ)(N:o.op=.store ty x y)(U:a.eval x=.pointer (some ⟨g,i,none⟩))(V:a.eval y=cells)(hi:(P.info? ty).map (·.size)=some cells.size)(O:i+cells.size<=old.size)(J:cells.all (·.oneCell')=true)(h: ∀W':ω,Own w W' (j::H::(g,t,arh old i cells.toList)::L)->W'.heap.size=W.heap.size->(∀k,k≠g->W'.heap[k]? =W.heap[k]?)->Δ P ops Q rest (a.put o.dst υ) W'):Δ P ops Q (o::rest) a W:=vK (L1:= [j,H]) i cells K M ty x y N U V hi O J h
def Own.b2{j H:Bk}{L:List Bk}{g:Nat}{t:τ}{cs:Array Θ}(J:Own w W (j::H::(g,t,cs)::L)):fK W g t cs:=Own.at_ (L1:= [j,H]) J
def VN{j H J:Bk}{L:List Bk}{g:Nat}{t:τ}{cs:Array Θ}(K:Own w W (j::H::J::(g,t,cs)::L))(U:aF o (ψ ops a.tmps)=true)(x:κ)(N:o.op=.load t x)(V:a.eval x=.pointer g)(d:TypeDesc)(O:P.underlying t=some d)(M:(match d with | .struct _ | .array _ _=>true |_=>false)=true)(hi:(P.info? t).map (·.size)=some cs.size)(h:Δ P ops Q rest (a.put o.dst cs) W):Δ P ops Q (o::rest) a W:=lK (L1:= [j,H,J]) K U x N V d O M hi h
def EC{j H J:Bk}{L:List Bk}{g:Nat}{t:τ}{old:Array Θ}(cells:Array Θ)(M:Own w W (j::H::J::(g,t,old)::L))(N:o.guard=none)(x y:κ)(O:o.op=.store t x y)(V:a.eval x=.pointer g)(Y:a.eval y=cells)(hi:(P.info? t).map (·.size)=some cells.size)(U:old.size=cells.size)(K:cells.all (·.oneCell')=true)(h: ∀W':ω,Own w W' (j::H::J::(g,t,cells)::L)->W'.heap.size=W.heap.size->(∀k,k≠g->W'.heap[k]? =W.heap[k]?)->Δ P ops Q rest (a.put o.dst υ) W'):Δ P ops Q (o::rest) a W:=ng (L1:= [j,H,J]) cells M N x y O V Y hi U K h
def Zj{j H J:Bk}{L:List Bk}{g:Nat}{t:τ}{old:Array Θ}(i:Nat)(u:Θ)(M:Own w W (j::H::J::(g,t,old)::L))(N:o.guard=none)(ty:τ)(x y:κ)(U:o.op=.store ty x y)(V:a.eval x=.pointer (some ⟨g,i,none⟩))(Y:a.eval y=u)(hi:(P.info? ty).map (·.size)=some 1)(O:i<old.size)(K:u.oneCell'=true)(h: ∀W':ω,Own w W' (j::H::J::(g,t,old.setIfInBounds i u)::L)->W'.heap.size=W.heap.size->(∀k,k≠g->W'.heap[k]? =W.heap[k]?)->Δ P ops Q rest (a.put o.dst υ) W'):Δ P ops Q (o::rest) a W:=uH (L1:= [j,H,J]) i u M N ty x y U V Y hi O K h
def Own.b3{j H J:Bk}{L:List Bk}{g:Nat}{t:τ}{cs:Array Θ}(K:Own w W (j::H::J::(g,t,cs)::L)):fK W g t cs:=Own.at_ (L1:= [j,H,J]) K
def VO{j H J K:Bk}{L:List Bk}{g:Nat}{t:τ}{cs:Array Θ}(M:Own w W (j::H::J::K::(g,t,cs)::L))(V:aF o (ψ ops a.tmps)=true)(x:κ)(O:o.op=.load t x)(Y:a.eval x=.pointer g)(d:TypeDesc)(U:P.underlying t=some d)(N:(match d with | .struct _ | .array _ _=>true |_=>false)=true)(hi:(P.info? t).map (·.size)=some cs.size)(h:Δ P ops Q rest (a.put o.dst cs) W):Δ P ops Q (o::rest) a W:=lK (L1:= [j,H,J,K]) M V x O Y d U N hi h
def RD{j H J K:Bk}{L:List Bk}{g:Nat}{t:τ}{old:Array Θ}(cells:Array Θ)(N:Own w W (j::H::J::K::(g,t,old)::L))(O:o.guard=none)(x y:κ)(U:o.op=.store t x y)(Y:a.eval x=.pointer g)(Z:a.eval y=cells)(hi:(P.info? t).map (·.size)=some cells.size)(V:old.size=cells.size)(M:cells.all (·.oneCell')=true)(h: ∀W':ω,Own w W' (j::H::J::K::(g,t,cells)::L)->W'.heap.size=W.heap.size->(∀k,k≠g->W'.heap[k]? =W.heap[k]?)->Δ P ops Q rest (a.put o.dst υ) W'):Δ P ops Q (o::rest) a W:=ng (L1:= [j,H,J,K]) cells N O x y U Y Z hi V M h
def asv{j H J K:Bk}{L:List Bk}{g:Nat}{t:τ}{old:Array Θ}(i:Nat)(u:Θ)(N:Own w W (j::H::J::K::(g,t,old)::L))(O:o.guard=none)(ty:τ)(x y:κ)(V:o.op=.store ty x y)(Y:a.eval x=.pointer (some ⟨g,i,none⟩))(Z:a.eval y=u)(hi:(P.info? ty).map (·.size)=some 1)(U:i<old.size)(M:u.oneCell'=true)(h: ∀W':ω,Own w W' (j::H::J::K::(g,t,old.setIfInBounds i u)::L)->W'.heap.size=W.heap.size->(∀k,k≠g->W'.heap[k]? =W.heap[k]?)->Δ P ops Q rest (a.put o.dst υ) W'):Δ P ops Q (o::rest) a W:=uH (L1:= [j,H,J,K]) i u N O ty x y V Y Z hi U M h
def Own.b4{j H J K:Bk}{L:List Bk}{g:Nat}{t:τ}{cs:Array Θ}(M:Own w W (j::H::J::K::(g,t,cs)::L)):fK W g t cs:=Own.at_ (L1:= [j,H,J,K]) M
end
section
variable {P:χ}
def lY{fn:Func}{a b c:Tmp}{j H:τ}(h:fn.results= #[.cell a j,.cell b H,.tmp c])(tmps:Array Θ)(w:ω)(J K:Nat)(c1 c2:Array Θ)(v:Θ)(M N:TypeDesc)(V:tmps.getD a υ=.pointer J)(Z:tmps.getD b υ=.pointer K)(hc:tmps.getD c υ=v)(O:fK w J j c1)(U:fK w K H c2)(u1:P.underlying j=some M)(k1:(match M with | .struct _ | .array _ _=>true |_=>false)=true)(i1:(P.info? j).map (·.size)=some c1.size)(u2:P.underlying H=some N)(k2:(match N with | .struct _ | .array _ _=>true |_=>false)=true)(i2:(P.info? H).map (·.size)=some c2.size):(results fn tmps).run P w=.ok (.tuple #[c1,c2,v]) w:=by
 have Y:tmps[a]?.getD υ=.pointer J:=by simpa using V
 have aa:tmps[b]?.getD υ=.pointer K:=by simpa using Z
 have ac:tmps[c]?.getD υ=v:=by simpa using hc
 simp[results,h,Y,aa,ac,asAddr,run_loadVar_row w J j j c1 (0,0) M O u1 k1 i1,run_loadVar_row w K H H c2 (0,0) N U u2 k2 i2]
def yF{fn:Func}{a c:Tmp}{j:τ}(h:fn.results= #[.cell a j,.tmp c])(tmps:Array Θ)(w:ω)(H:Nat)(c1:Array Θ)(v:Θ)(J:TypeDesc)(M:tmps.getD a υ=.pointer H)(hc:tmps.getD c υ=v)(K:fK w H j c1)(V:P.underlying j=some J)(k1:(match J with | .struct _ | .array _ _=>true |_=>false)=true)(U:(P.info? j).map (·.size)=some c1.size):(results fn tmps).run P w=.ok (.tuple #[c1,v]) w:=by
 have N:tmps[a]?.getD υ=.pointer H:=by simpa using M
 have O:tmps[c]?.getD υ=v:=by simpa using hc
 simp[results,h,N,O,asAddr,run_loadVar_row w H j j c1 (0,0) J K V k1 U]
end
def Own.start3(w:ω)(j H J:τ)(c1 c2 c3:Array Θ):Own w (((w.alloc (.cells c1 j)).alloc (.cells c2 H)).alloc (.cells c3 J)) [(w,j,c1),(w.heap.size+1,H,c2),(w.heap.size+1+1,J,c3)]:=(((Own.nil w).alloc j c1 _ rfl).alloc H c2 _ (by simp)).alloc J c3 _ (by simp)
def Own.start4(w:ω)(j H J K:τ)(c1 c2 c3 c4:Array Θ):Own w ((((w.alloc (.cells c1 j)).alloc (.cells c2 H)).alloc (.cells c3 J)).alloc (.cells c4 K)) [(w,j,c1),(w.heap.size+1,H,c2),(w.heap.size+1+1,J,c3),(w.heap.size+1+1+1,K,c4)]:=(Own.start3 w j H J c1 c2 c3).alloc K c4 _ (by simp)
def Own.iY(w:ω)(j H:τ)(c1 c2:Array Θ):Own w ((w.alloc (.cells c1 j)).alloc (.cells c2 H)) [(w,j,c1),(w.heap.size+1,H,c2)]:=((Own.nil w).alloc j c1 _ rfl).alloc H c2 _ (by simp)
def Own.new2{w W:ω}{j H:Bk}(h:Own w W [j,H])(t:τ)(cs:Array Θ):Own w (W.alloc (.cells cs t)) [j,H,(W,t,cs)]:=h.alloc t cs _ rfl
def Own.abu{w W:ω}{j H J:Bk}(h:Own w W [j,H,J])(t:τ)(cs:Array Θ):Own w (W.alloc (.cells cs t)) [j,H,J,(W,t,cs)]:=h.alloc t cs _ rfl
def Own.alC{w W:ω}{j H J K:Bk}(h:Own w W [j,H,J,K])(t:τ)(cs:Array Θ):Own w (W.alloc (.cells cs t)) [j,H,J,K,(W,t,cs)]:=h.alloc t cs _ rfl
section
variable {P:χ} {ops:Array ο} {rest:List ο} {o:ο} {a:Act} {w W:ω} {Q:Exit->Act->ω->Prop}
def abv{j H J K M:Bk}{L:List Bk}{g:Nat}{t:τ}{old:Array Θ}(cells:Array Θ)(O:Own w W (j::H::J::K::M::(g,t,old)::L))(U:o.guard=none)(x y:κ)(V:o.op=.store t x y)(Z:a.eval x=.pointer g)(hy:a.eval y=cells)(hi:(P.info? t).map (·.size)=some cells.size)(Y:old.size=cells.size)(N:cells.all (·.oneCell')=true)(h: ∀W':ω,Own w W' (j::H::J::K::M::(g,t,cells)::L)->W'.heap.size=W.heap.size->(∀k,k≠g->W'.heap[k]? =W.heap[k]?)->Δ P ops Q rest (a.put o.dst υ) W'):Δ P ops Q (o::rest) a W:=ng (L1:= [j,H,J,K,M]) cells O U x y V Z hy hi Y N h
def VP{j H J K M:Bk}{L:List Bk}{g:Nat}{t:τ}{cs:Array Θ}(N:Own w W (j::H::J::K::M::(g,t,cs)::L))(Y:aF o (ψ ops a.tmps)=true)(x:κ)(U:o.op=.load t x)(Z:a.eval x=.pointer g)(d:TypeDesc)(V:P.underlying t=some d)(O:(match d with | .struct _ | .array _ _=>true |_=>false)=true)(hi:(P.info? t).map (·.size)=some cs.size)(h:Δ P ops Q rest (a.put o.dst cs) W):Δ P ops Q (o::rest) a W:=lK (L1:= [j,H,J,K,M]) N Y x U Z d V O hi h
def Own.b5{j H J K M:Bk}{L:List Bk}{g:Nat}{t:τ}{cs:Array Θ}(N:Own w W (j::H::J::K::M::(g,t,cs)::L)):fK W g t cs:=Own.at_ (L1:= [j,H,J,K,M]) N
def Own.b6{j H J K M N:Bk}{L:List Bk}{g:Nat}{t:τ}{cs:Array Θ}(O:Own w W (j::H::J::K::M::N::(g,t,cs)::L)):fK W g t cs:=Own.at_ (L1:= [j,H,J,K,M,N]) O
def Own.b7{j H J K M N O:Bk}{L:List Bk}{g:Nat}{t:τ}{cs:Array Θ}(U:Own w W (j::H::J::K::M::N::O::(g,t,cs)::L)):fK W g t cs:=Own.at_ (L1:= [j,H,J,K,M,N,O]) U
def Own.b8{j H J K M N O U:Bk}{L:List Bk}{g:Nat}{t:τ}{cs:Array Θ}(V:Own w W (j::H::J::K::M::N::O::U::(g,t,cs)::L)):fK W g t cs:=Own.at_ (L1:= [j,H,J,K,M,N,O,U]) V
end
def Own.abw(w:ω)(H J K M N:τ)(c1 c2 c3 c4 j:Array Θ):Own w (((((w.alloc (.cells c1 H)).alloc (.cells c2 J)).alloc (.cells c3 K)).alloc (.cells c4 M)).alloc (.cells j N)) [(w,H,c1),(w.heap.size+1,J,c2),(w.heap.size+1+1,K,c3),(w.heap.size+1+1+1,M,c4),(w.heap.size+1+1+1+1,N,j)]:=(Own.start4 w H J K M c1 c2 c3 c4).alloc N j _ (by simp)
end
section
structure arb (α:Type) where
  k:Nat
  enc:α->List Θ
  len: ∀x,(enc x).length=k
  one: ∀x u,u∈enc x->u.oneCell'=true
  pos:0<k
section
variable {α:Type} (E:arb α)
def arb.flat (xs:List α):List Θ:=xs.flatMap E.enc
def arb.nX(x:α)(xs:List α):E.flat (x::xs)=E.enc x++E.flat xs:=rfl
def arb.zS(xs j:List α):E.flat (xs++j)=E.flat xs++E.flat j:=by simp[arb.flat]
def arb.flat_length(xs:List α):(E.flat xs).length=xs.length*E.k:=by induction xs with|nil=>simp[arb.flat]|cons x xs j=>rw[E.nX,bC,E.len,j,bK,Nat.add_mul];omega
def arb.Nv(xs:List α)(i:Nat):(E.flat xs).drop (i*E.k)=E.flat (xs.drop i):=by induction xs generalizing i with|nil=>simp[arb.flat]|cons x xs j=>cases i with|zero=>simp|succ i=>rw[E.nX,List.drop_succ_cons,<-j i,show(i+1)*E.k=(E.enc x).length+i*E.k by rw[E.len,Nat.add_mul];omega,List.drop_append];simp
def arb.BK(xs:List α)(i:Nat):(E.flat xs).take (i*E.k)=E.flat (xs.take i):=by induction xs generalizing i with|nil=>simp[arb.flat]|cons x xs j=>cases i with|zero=>simp[arb.flat]|succ i=>rw[E.nX,List.take_succ_cons,E.nX,<-j i,show(i+1)*E.k=(E.enc x).length+i*E.k by rw[E.len,Nat.add_mul];omega,List.take_append,aY (by omega)];simp
def arb.IZ{xs:List α}{i:Nat}{x:α}(h:xs[i]? =some x)(j:Nat)(H:j<E.k):(E.flat xs)[i*E.k+j]? =(E.enc x)[j]? :=by
 obtain⟨hi,rfl⟩:=aX.1 h;have:(E.flat xs)[i*E.k+j]? =((E.flat xs).drop (i*E.k))[j]? :=by simp
 rw[this,E.Nv,List.drop_eq_getElem_cons hi,E.nX,dP (by rw[E.len];exact H)]
def arb.Zk(xs:List α): ∀u∈E.flat xs,u.oneCell'=true:=by intro u j;unfold arb.flat at j;rw[List.mem_flatMap]at j;obtain⟨x,_,j⟩:=j;exact E.one x u j
def fE (w:ω) (A:Option δ) (xs:List α):Prop:=Row w A (E.flat xs)
variable {E}
section
variable {w w':ω} {A:Option δ} {xs:List α}
def fE.below(h:fE E w A xs)(j:w w'):fE E w' A xs:=Row.below h j
def fE.alloc(h:fE E w A xs)(o:Obj):fE E (w.alloc o) A xs:=Row.alloc h o
def fE.nil(w:ω)(A:Option δ):fE E w A []:=Row.nil w A
def fE.get(h:fE E w A xs){i:Nat}{x:α}(J:xs[i]? =some x): ∃b off,A=some ⟨b,off,none⟩/\b<w.heap.size/\ ∀j u,(E.enc x)[j]? =some u->w.cell? ⟨b,off+i*E.k+j,none⟩=some u:=by
 have hi:=(aX.1 J).1;have N:0<(E.flat xs).length:=by rw[E.flat_length];exact Nat.mul_pos (by omega) E.pos
 obtain⟨b,off,e,K,hc⟩:=h N;refine⟨b,off,e,K,λj u H=>?_⟩;have M:j<E.k:=by
  rcases eu j E.k with g |g;.exact g
  .rw[dQ (by rw[E.len];exact g)]at H;cases H
 rw[Nat.add_assoc];exact hc _ u (by rw[E.IZ J j M];exact H)
def fE.take{b off:Nat}(h:fE E w (some ⟨b,off,none⟩) xs)(i:Nat):fE E w (some ⟨b,off,none⟩) (xs.take i):=λJ=>by
 unfold fE at h;rw[<-E.BK]at J;have M:0<(E.flat xs).length:=by grind
 obtain⟨H,O,e,K,hc⟩:=h M;refine⟨H,O,e,K,λN u j=>hc N u ?_⟩;rw[<-E.BK,List.getElem?_take]at j;split at j;.exact j
 .cases j
end
def aq1 (E:arb α) (t:τ) (w:ω) (base:Nat) (A:Option δ) (c:Nat) (xs:List α):Prop:=w.ownsRow base t E.k (.slice A xs.length c) xs.length (E.flat xs)
section
variable {t:τ} {w w':ω} {base:Nat} {A:Option δ} {c:Nat} {xs:List α}
def aq1.nil(w:ω)(base:Nat):aq1 E t w base none 0 []:=World.ownsRow_nil w base _ _
def aq1.off{R:Option Nat}(h:aq1 E t w base A c xs)(M:w.grownBy w' R)(K: ∀g,A.map (·.block)=some g->R≠some g):aq1 E t w' base A c xs:=by
 refine⟨h.1,?_⟩;rcases h.2 with O |⟨g,cap,cur,e,j,H,J⟩;.grind
 .have N:g<w.heap.size:=by grind
  have hA:A.map (·.block)=some g:=by grind
  exact .inr ⟨g,cap,cur,e,j,(M.block g N (λe=>K g hA e.symm)).trans H,J⟩
def aq1.below(h:aq1 E t w base A c xs)(j:w w'):aq1 E t w' base A c xs:=h.off (R:=none) ⟨j.os,j.tape,j.output,j.size,λk H _=>j.block k H⟩ (λg _ e=>by cases e)
def aq1.alloc(h:aq1 E t w base A c xs)(o:Obj):aq1 E t (w.alloc o) base A c xs:=h.below (gY.alloc ig o)
def aq1.mono{base':Nat}(h:aq1 E t w base A c xs)(K:base'<=base):aq1 E t w base' A c xs:=by
 refine⟨h.1,?_⟩;rcases h.2 with H |⟨g,cap,cur,e,J,j⟩;.grind
 .exact .inr ⟨g,cap,cur,e,by omega,j⟩
def aq1.blk(h:aq1 E t w base A c xs)(O:A≠none): ∃g cur,A=some ⟨g,0,none⟩/\base<=g/\fK w g t cur/\cur.size=c*E.k/\xs.length<=c/\c<=μ/\cur.toList.take (xs.length*E.k)=E.flat xs:=by
 rcases h.2 with⟨e,_⟩ |⟨g,cap,cur,e,j,H,J,K,M,N⟩;.grind
 .simp only[dV]at e;obtain⟨rfl,_,rfl⟩:=e;exact⟨g,cur,rfl,j,H,M,J,K,N⟩
def aq1.some_(h:aq1 E t w base A c xs)(j:0<xs.length):A≠none:=by
 rintro rfl;rcases h.2 with⟨e,H⟩ |⟨g,cap,cur,e,_⟩;.omega
 grind
def aq1.rows(h:aq1 E t w base A c xs):fE E w A xs:=λH=>by
 have M:0<xs.length:=by rw[E.flat_length]at H;grind
 obtain⟨g,cur,rfl,U,j,V,Y,Z,J⟩:=h.blk (h.some_ M);refine⟨g,0,rfl,j.lt,λO u N=>?_⟩;rw[aJ,j.cell,<-Array.getElem?_toList];have K:O<xs.length*E.k:=by grind
 rw[<-dG K,J];exact N
def aq1.gJ(h:aq1 E t w base A c xs): ∀g,A.map (·.block)=some g->base<=g/\g<w.heap.size:=by
 intro g j;have hA:A≠none:=by grind
 obtain⟨K,cur,rfl,H,J,_⟩:=h.blk hA;simp at j;subst j;exact⟨H,J.lt⟩
def aq1.cap(h:aq1 E t w base A c xs):xs.length<=c/\c<=μ:=by
 rcases h.2 with⟨e,j⟩ |⟨g,cap,cur,e,_,_,H,J,_⟩;.grind
 grind
def aq1.far(h:aq1 E t w base A c xs){g:Nat}(N:g<base)(K: ∀k,k≠g->w'.heap[k]? =w.heap[k]?):aq1 E t w' base A c xs:=by
 refine⟨h.1,?_⟩;rcases h.2 with M |⟨k,cap,cur,e,j,H,J⟩;.grind
 .exact .inr ⟨k,cap,cur,e,j,(K k (by omega)).trans H,J⟩
end
structure qo (P:χ) (E:arb α) (ts t:τ) (bytes:Nat) where
  under:P.underlying ts=some (.slice t)
  info: ∃i z,P.info? t=some i/\i.zero=some z/\i.size=E.k/\i.bytes=bytes/\z.cells.size=E.k
section
variable {P:χ} {ts t:τ} {bytes:Nat}
def oH(T:qo P E ts t bytes){w:ω}{o:ο}{a:Act}{K:Act->ω->Prop}{Q:Exit->Act->ω->Prop}(s x:κ)(ho:o.op=.call {callee:=.builtin .append,args:= #[s,x],argTypes:= #[ts,ts]})(base:Nat)(A1:Option δ)(c1:Nat)(xs:List α)(n1:Nat)(hs:a.eval s=.slice A1 n1 c1)(ae:xs.length=n1)(ag:aq1 E t w base A1 c1 xs)(A:Option δ)(c:Nat)(j:List α)(n:Nat)(hx:a.eval x=.slice A n c)(hn:j.length=n)(hr:fE E w A j)(ad:n1+n<=65536)(aa:bytes<=4096)(Y:base<=w.heap.size)(h: ∀A2 c2 W,aq1 E t W base A2 c2 (xs++j)->w.grownBy W (A1.map (·.block))->(A2.map (·.block)=A1.map (·.block)\/A2.map (·.block)=some w.heap.size)->K (a.put o.dst (.slice A2 (n1+n) c2)) W):o.wp P a w K Q:=by
 subst ae;subst hn;obtain⟨i0,z,ac,ak,al,am,an⟩:=T.info;have ai:ari w w E.k A j.length (E.flat j):=⟨E.flat_length j,λH=>by obtain⟨b,off,e,V,hc⟩:=hr (by rw[E.flat_length];exact Nat.mul_pos H E.pos);refine⟨⟨b,off,none⟩,e,V,λap u hu=>?_⟩;rw[Addr.add_lit];exact hc ap u hu⟩;have Z:(xs.length+j.length)*bytes<=140737488355328:=by have:=Nat.mul_le_mul ad aa;omega
 refine CO w s x ts ho base t i0 z E.k bytes T.under ac ak al am an E.pos _ _ _ hs ag w A j.length c (E.flat j) hx ai (E.Zk j) (by constructor<;>grind) Z Y ?_;intro v' W M N J;have af:(Value.slice A1 xs.length c1).ownBlock=A1.map (·.block):=by cases A1 <;> rfl
 rw[af]at N J;have U: ∃A2 c2,v'=.slice A2 (xs.length+j.length) c2:=by
  rcases M.2 with⟨e,H⟩ |⟨g,cap,_,e,_⟩;.exact⟨none,0,by rw[e,H]⟩
  .exact⟨_,_,e⟩
 obtain⟨A2,c2,rfl⟩:=U;have O:(Value.slice A2 (xs.length+j.length) c2).ownBlock=A2.map (·.block):=by cases A2 <;> rfl
 rw[O]at J;refine h A2 c2 W ?_ N J;unfold aq1;rw[bC,E.zS];exact M
def gW(T:qo P E ts t bytes){w:ω}{ops:Array ο}{rest:List ο}{o:ο}{a:Act}{Q:Exit->Act->ω->Prop}(U:o.guard=none)(s x:κ)(Z:o.op=.call {callee:=.builtin .append,args:= #[s,x],argTypes:= #[ts,ts]})(base:Nat)(A1:Option δ)(c1:Nat)(xs:List α)(n1:Nat)(hs:a.eval s=.slice A1 n1 c1)(Y:xs.length=n1)(aa:aq1 E t w base A1 c1 xs)(A:Option δ)(c:Nat)(j:List α)(n:Nat)(hx:a.eval x=.slice A n c)(hn:j.length=n)(hr:fE E w A j)(V:n1+n<=65536)(O:bytes<=4096)(N:base<=w.heap.size)(h: ∀A2 c2 W,aq1 E t W base A2 c2 (xs++j)->w.grownBy W (A1.map (·.block))->(A2.map (·.block)=A1.map (·.block)\/A2.map (·.block)=some w.heap.size)->Δ P ops Q rest (a.put o.dst (.slice A2 (n1+n) c2)) W):Δ P ops Q (o::rest) a w:=π U λ_ M=>oH T s x Z base A1 c1 xs n1 hs Y aa A c j n hx hn hr V O N λA2 c2 W H J K=>M _ _ (h A2 c2 W H J K)
end
end
end
section
structure St where
  edge:Int
  rev:Bool
deriving DecidableEq
structure En where
  edge:Int
  at_:Int
deriving DecidableEq
structure Jt where
  a:En
  b:En
deriving DecidableEq
structure Bl where
  id:Int
  edge:Int
  at_:Int
structure Rt where
  id:Int
  path:List St
  gap:Int
  timer:Int
structure Tp where
  edges:List Int
  iI:List Jt
  jW:List Bl
  routes:List Rt
structure Sc where
  kL:Int
  timer:Int
structure Ps where
  edge:Int
  at_:Int
  rev:Bool
structure Ma where
  ref:Int
  rev:Bool
  path:List St
  fP:List Sc
  gap:Int
structure Sp where
  edge:Int
  lo:Int
  hi:Int
def aq7:arb Int:=⟨1,fun n=> [.int .i64 n],fun _=>rfl,fun _ u hu=>by simp at hu;subst hu;rfl,by decide⟩
def gV:arb St:=⟨2,fun s=> [.int .i64 s.edge,.bool s.rev],fun _=>rfl,fun _ u hu=>by simp at hu;rcases hu with rfl |rfl <;> rfl,by decide⟩
def qV:arb Jt:=⟨4,fun j=> [.int .i64 j.a.edge,.int .i64 j.a.at_,.int .i64 j.b.edge,.int .i64 j.b.at_],fun _=>rfl,fun _ u hu=>by simp at hu;rcases hu with rfl |rfl |rfl |rfl <;> rfl,by decide⟩
def qW:arb Bl:=⟨3,fun b=> [.int .i64 b.id,.int .i64 b.edge,.int .i64 b.at_],fun _=>rfl,fun _ u hu=>by simp at hu;rcases hu with rfl |rfl |rfl <;> rfl,by decide⟩
def kW:arb Sc:=⟨2,fun s=> [.int .i64 s.kL,.int .i64 s.timer],fun _=>rfl,fun _ u hu=>by simp at hu;rcases hu with rfl |rfl <;> rfl,by decide⟩
def iO:arb Sp:=⟨3,fun s=> [.int .i64 s.edge,.int .i64 s.lo,.int .i64 s.hi],fun _=>rfl,fun _ u hu=>by simp at hu;rcases hu with rfl |rfl |rfl <;> rfl,by decide⟩
def zT:arb (Rt × Option δ × Nat):=⟨4,fun p=> [.int .i64 p.1.id,.slice p.2.1 p.1.path.length p.2.2,.int .i64 p.1.gap,.int .i64 p.1.timer],fun _=>rfl,fun _ u hu=>by simp at hu;rcases hu with rfl |rfl |rfl |rfl <;> rfl,by decide⟩
section
variable {w:ω} {A:Option δ}
def fE.int{xs:List Int}(h:fE aq7 w A xs){i:Nat}(hi:i<xs.length): ∃b off,A=some ⟨b,off,none⟩/\b<w.heap.size/\w.cell? ⟨b,off+i,none⟩=some (.int .i64 xs[i]!):=by obtain⟨b,off,e,j,hc⟩:=h.get (aI hi);refine⟨b,off,e,j,?_⟩;have:=hc 0 _ rfl;rw[getElem!_pos xs i hi];simpa[aq7] using this
def fE.st{xs:List St}(h:fE gV w A xs){i:Nat}{s:St}(H:xs[i]? =some s): ∃b off,A=some ⟨b,off,none⟩/\b<w.heap.size/\w.cell? ⟨b,off+i*2,none⟩=some s.edge/\w.cell? ⟨b,off+i*2+1,none⟩=some s.rev:=by obtain⟨b,off,e,j,hc⟩:=h.get H;exact⟨b,off,e,j,hc 0 _ rfl,hc 1 _ rfl⟩
def fE.jt{xs:List Jt}(h:fE qV w A xs){i:Nat}{j:Jt}(J:xs[i]? =some j): ∃b off,A=some ⟨b,off,none⟩/\b<w.heap.size/\w.cell? ⟨b,off+i*4,none⟩=some j.a.edge/\w.cell? ⟨b,off+i*4+1,none⟩=some j.a.at_/\w.cell? ⟨b,off+i*4+2,none⟩=some j.b.edge/\w.cell? ⟨b,off+i*4+3,none⟩=some j.b.at_:=by obtain⟨b,off,e,H,hc⟩:=h.get J;exact⟨b,off,e,H,hc 0 _ rfl,hc 1 _ rfl,hc 2 _ rfl,hc 3 _ rfl⟩
def fE.bl{xs:List Bl}(h:fE qW w A xs){i:Nat}{j:Bl}(J:xs[i]? =some j): ∃b off,A=some ⟨b,off,none⟩/\b<w.heap.size/\w.cell? ⟨b,off+i*3,none⟩=some j.id/\w.cell? ⟨b,off+i*3+1,none⟩=some j.edge/\w.cell? ⟨b,off+i*3+2,none⟩=some j.at_:=by obtain⟨b,off,e,H,hc⟩:=h.get J;exact⟨b,off,e,H,hc 0 _ rfl,hc 1 _ rfl,hc 2 _ rfl⟩
def fE.sc{xs:List Sc}(h:fE kW w A xs){i:Nat}{s:Sc}(H:xs[i]? =some s): ∃b off,A=some ⟨b,off,none⟩/\b<w.heap.size/\w.cell? ⟨b,off+i*2,none⟩=some s.kL/\w.cell? ⟨b,off+i*2+1,none⟩=some s.timer:=by obtain⟨b,off,e,j,hc⟩:=h.get H;exact⟨b,off,e,j,hc 0 _ rfl,hc 1 _ rfl⟩
def fE.rt{xs:List (Rt × Option δ × Nat)}(h:fE zT w A xs){i:Nat}{p:Rt × Option δ × Nat}(H:xs[i]? =some p): ∃b off,A=some ⟨b,off,none⟩/\b<w.heap.size/\w.cell? ⟨b,off+i*4,none⟩=some p.1.id/\w.cell? ⟨b,off+i*4+1,none⟩=some (.slice p.2.1 p.1.path.length p.2.2)/\w.cell? ⟨b,off+i*4+2,none⟩=some p.1.gap/\w.cell? ⟨b,off+i*4+3,none⟩=some p.1.timer:=by obtain⟨b,off,e,j,hc⟩:=h.get H;exact⟨b,off,e,j,hc 0 _ rfl,hc 1 _ rfl,hc 2 _ rfl,hc 3 _ rfl⟩
end
structure abx (w:ω) (t:Tp) (Ae Aj Ab Ar:Option δ) (rs:List (Rt × Option δ × Nat)):Prop where
  edges:fE aq7 w Ae t.edges
  iI:fE qV w Aj t.iI
  jW:fE qW w Ab t.jW
  routes:fE zT w Ar rs
  is:rs.map (·.1)=t.routes
  paths: ∀p∈rs,fE gV w p.2.1 p.1.path
def abx.below{w w':ω}{t:Tp}{Ae Aj Ab Ar:Option δ}{rs:List (Rt × Option δ × Nat)}(h:abx w t Ae Aj Ab Ar rs)(j:w w'):abx w' t Ae Aj Ab Ar rs:=⟨h.edges.below j,h.iI.below j,h.jW.below j,h.routes.below j,h.is,λp H=>(h.paths p H).below j⟩
structure Yd where
  Ae:Option δ
  ce:Nat
  Aj:Option δ
  cj:Nat
  Ab:Option δ
  cb:Nat
  Ar:Option δ
  cr:Nat
  rs:List (Rt × Option δ × Nat)
def Yd.cells (v:Yd) (t:Tp):Array Θ:= #[.slice v.Ae t.edges.length v.ce,.slice v.Aj t.iI.length v.cj,.slice v.Ab t.jW.length v.cb,.slice v.Ar t.routes.length v.cr]
def iW (t:Tp) (e:Int):Bool:=decide (0<=e)&&decide (e<t.edges.length)
def kC (s:St):En:=⟨s.edge,if s.rev then 1 else 0⟩
def nZ (s:St):En:=kC ⟨s.edge,!s.rev⟩
def zU (js:List Jt) (a b:En):Bool:=decide (⟨a,b⟩∈js) || decide (⟨b,a⟩∈js)
def OY (t:Tp) (a b:St):Bool:=zU t.iI (nZ a) (kC b)
def Iw (t:Tp):List St->Bool
 |a::b::p=>OY t a b&&Iw t (b::p)
 |_=>true
def jS (t:Tp) (e:Int):Int:=t.edges[e.toNat]!
def arS (t:Tp) (p:List St):Int:=p.foldl (fun n s=>wrap64 (n+jS t s.edge)) 0
def ny (t:Tp) (p:List St):Int:=if p.length=0\/40<p.length then 1 else if p.all fun s=>iW t s.edge then(if Iw t p then 0 else 141) else 1
def qc (t:Tp) (p:List St):Int:=if ny t p=0 then arS t p else 0
def oz (t:Tp) (id:Int):Option Bl:=t.jW.find? fun b=>decide (b.id=id)
def sJ (t:Tp) (id:Int):Option Rt:=t.routes.find? fun r=>decide (r.id=id)
end
def lG (s:Sp):Bool:=decide (0<=s.edge)&&decide (0<=s.lo)&&decide (s.lo<s.hi)&&decide (s.hi<=1000000)
def tZ (a b:Sp):Prop:=a.edge<b.edge\/a.edge=b.edge/\a.lo<=b.lo
def oI:List Sp->List Sp->List Sp
 |out,[]=>out
 | [],s::l=>oI [s] l
 |o::out,s::l=>if o.edge=s.edge/\s.lo<=o.hi then oI (⟨o.edge,o.lo,max o.hi s.hi⟩::out) l else oI (s::o::out) l
def zB (l:List Sp):Int:=(l.map fun s=>s.hi-s.lo).sum
def Cj (t:Tp) (x:En):Bool:=iW t x.edge&&(decide (x.at_=0) || decide (x.at_=1))
def og (t:Tp):List Jt->List Jt->Int
 |_,[]=>0
 |d,j::l=>if Cj t j.a=false\/Cj t j.b=false\/j.a=j.b then 1 else if zU d j.a j.b then 5 else og t (d++ [j]) l
def wH (t:Tp):List Bl->List Bl->Int
 |_,[]=>0
 |d,b::l=>if b.id<0\/16777214<b.id\/iW t b.edge=false\/b.at_<0\/jS t b.edge<b.at_ then 1 else if d.any (fun x=>decide (x.id=b.id)) then 5 else wH t (d++ [b]) l
def vM (t:Tp):List St->List St->Bool
 |_,[]=>true
 |d,s::l=>iW t s.edge&& !(d.any fun x=>decide (x.edge=s.edge))&&vM t (d++ [s]) l
def yG (t:Tp) (r:Rt):Int:=if r.id<1\/r.path.length<1\/8<r.path.length then 1 else if vM t [] r.path=false then 1 else if ny t r.path≠0 then ny t r.path else if r.gap<0\/qc t r.path<=r.gap\/r.timer<1\/1000<r.timer then 1 else if r.path.all (fun s=>t.jW.any fun b=>decide (b.edge=s.edge)) then 0 else 4
def tH (t:Tp):List Rt->List Rt->Int
 |_,[]=>0
 |d,r::l=>if yG t r≠0 then yG t r else if d.any (fun x=>decide (x.id=r.id)) then 5 else tH t (d++ [r]) l
def jr (t:Tp):Int:=if 40<t.edges.length\/80<t.iI.length\/80<t.jW.length\/30<t.routes.length then 2 else if t.edges.any (fun n=>decide (n<1) || decide (1000000<n)) then 1 else if og t [] t.iI≠0 then og t [] t.iI else if wH t [] t.jW≠0 then wH t [] t.jW else tH t [] t.routes
def RF (t:Tp) (s:St):List St:=t.iI.flatMap fun j=>(if j.a=nZ s/\Cj t j.b then [⟨j.b.edge,decide (j.b.at_=1)⟩] else [])++(if j.b=nZ s/\Cj t j.a then [⟨j.a.edge,decide (j.a.at_=1)⟩] else [])
def aby (a b:St):Bool:=decide (a.edge<b.edge) || decide (a.edge=b.edge)&&decide ((kC a).at_<=(kC b).at_)
def uf (s:St):List St->List St
 | []=> [s]
 |x::l=>if s=x then x::l else if aby s x then s::x::l else x::uf s l
def pK (t:Tp) (s:St):List St:=if iW t s.edge then(RF t s).foldr uf [] else []
def pO (t:Tp) (p:Ps):Bool:=decide (jr t=0)&&iW t p.edge&&decide (0<=p.at_)&&decide (p.at_<=jS t p.edge)
def pR (t:Tp) (p:Ps):Int:=if p.rev then jS t p.edge-p.at_ else p.at_
def Hu (t:Tp) (s:St) (n:Int):Ps:=⟨s.edge,if s.rev then jS t s.edge-n else n,s.rev⟩
def qX:Ps:=⟨0,0,false⟩
def goT (t:Tp):Nat->St->Int->Int × St × Int
 |k,s,n=>if n<=jS t s.edge then(0,s,n) else match pK t s with
   | []=>(141,s,n)
   | [x]=>match k with
     |0=>(2,s,n)
     |k+1=>goT t k x (n-jS t s.edge)
   |_=>(140,s,n)
def ah4 (t:Tp) (p:Ps) (n:Int):Int:=if pO t p=false\/n<0\/1099511627776<n then 1 else(goT t 40 ⟨p.edge,p.rev⟩ (n+pR t p)).1
def alD (t:Tp) (p:Ps) (n:Int):Ps:=if ah4 t p n=0 then(let g:=goT t 40 ⟨p.edge,p.rev⟩ (n+pR t p);Hu t g.2.1 g.2.2) else qX
def uI (b:Bl) (rev:Bool):Ps:=⟨b.edge,b.at_,rev⟩
def OZ (t:Tp) (id:Int) (rev:Bool) (n:Int):Int:=if jr t≠0 then 1 else match oz t id with
 |none=>4
 |some b=>ah4 t (uI b rev) n
def ED (t:Tp) (id:Int) (rev:Bool) (n:Int):Ps:=if jr t≠0 then qX else match oz t id with
 |none=>qX
 |some b=>alD t (uI b rev) n
def uJ (t:Tp) (x:St):List St->Int->Option Int
 | [],_=>none
 |s::l,n=>if s=x then some n else uJ t x l (n+jS t s.edge)
def F5 (t:Tp) (path:List St) (p:Ps):Int × Int:=if pO t p=false then(0,1) else if ny t path≠0 then(0,ny t path) else match uJ t ⟨p.edge,p.rev⟩ path 0 with
 |none=>(0,4)
 |some n=>(n+pR t p,0)
def CS (t:Tp):List St->Int->Ps
 | [],_=>qX
 |s::l,n=>if n<=jS t s.edge then Hu t s n else CS t l (n-jS t s.edge)
def Zl (t:Tp) (path:List St) (n:Int):Int:=if jr t≠0 then 1 else if ny t path≠0 then ny t path else if n<0\/qc t path<n then 1 else 0
def Zm (t:Tp) (path:List St) (n:Int):Ps:=if Zl t path n=0 then CS t path n else qX
def aiQ (a b:Sp):Bool:=decide (a.edge<b.edge) || decide (a.edge=b.edge)&&decide (a.lo<=b.lo)
def zV (s:Sp):List Sp->List Sp
 | []=> [s]
 |x::l=>if aiQ s x then s::x::l else x::zV s l
def qY (l:List Sp):List Sp:=(oI [] ((l.filter lG).foldr zV [])).reverse
def abz (t:Tp) (fr kL at_:Int) (s:St):Sp:=let n:=jS t s.edge;let lo:=max (fr-at_) 0;let hi:=min (kL-at_) n;if s.rev then⟨s.edge,n-hi,n-lo⟩ else⟨s.edge,lo,hi⟩
def uT (t:Tp) (fr kL:Int):List St->Int->List Sp
 | [],_=> []
 |s::l,at_=>abz t fr kL at_ s::uT t fr kL l (at_+jS t s.edge)
def abA (t:Tp) (path:List St) (fr kL:Int):Int:=if ny t path≠0 then ny t path else if t.edges.any (fun n=>decide (n<1) || decide (1000000<n))\/fr<0\/kL<fr\/qc t path<kL then 1 else 0
def ah5 (t:Tp) (path:List St) (fr kL:Int):List Sp:=if abA t path fr kL=0 then qY (uT t fr kL path 0) else []
def Ju (l:List Sp):Int:=zB (qY l)
def xG (path:List St) (edge:Int):Bool:=path.any fun s=>decide (s.edge=edge)
def qA:List St->List St->Bool
 |_,[]=>false
 |d,s::l=>xG d s.edge || qA (d++ [s]) l
def zC (t:Tp) (m:Ma):Option (Int × Int):=match oz t m.ref with
 |none=>none
 |some b=>if m.path.head?≠some ⟨b.edge,m.rev⟩\/ny t m.path≠0 then none else(let behind:=if m.rev then jS t b.edge-b.at_ else b.at_;some (qc t m.path-behind,behind))
def pU:Int->List Sc->Bool
 |_,[]=>true
 |last,s::l=>decide (last<s.kL)&&decide (s.kL<=1099511627776)&&decide (1<=s.timer)&&decide (s.timer<=1000)&&pU s.kL l
def qg (m:Ma):Int:=match m.fP.getLast? with
 |none=>0
 |some s=>s.kL
def rX (t:Tp) (m:Ma):Bool:=decide (jr t=0)&&decide (m.path.length<=24)&& !qA [] m.path&&decide (1<=m.fP.length)&&decide (m.fP.length<=8)&&decide (0<=m.gap)&&decide (m.gap<=1099511627776)&&pU 0 m.fP&&(match zC t m with
 |none=>false
 |some x=>decide (qg m+m.gap<=x.1))
def jB:List Sc->Int->Int->Int
 | [],_,n=>n
 |s::l,age,n=>if s.timer<=age then n else jB l age s.kL
def yH (t:Tp) (m:Ma) (fr kL:Int):List Sp:=if rX t m=false\/fr<0\/kL<fr\/qg m+m.gap<kL then [] else match zC t m with
 |none=> []
 |some x=>ah5 t m.path (x.2+fr) (x.2+kL)
structure Lo where
  route:Int
  fG:Int
  no:Int
deriving DecidableEq
structure Rl where
  ahead:Int
  behind:Int
  period:Int
  most:Int
  quiet:Int
  oJ:Int
  wI:Int
  skew:Int
  lend:Int
def lJ (n:Int):Bool:=decide (0<=n)&&decide (n<=4294967294)
def jK (n:Int):Bool:=decide (0<=n)&&decide (n<=268435456)
def Dv (r:Rl):Bool:=lJ r.ahead&&lJ r.behind&&decide (1<=r.period)&&decide (r.period<=1048576)&&decide (1<=r.quiet)&&decide (r.quiet<=1048576)&&decide (0<=r.most)&&decide (r.most<=20)&&jK r.oJ&&jK r.skew&&jK r.lend&&decide (0<=r.wI)&&decide (r.wI<=1099511627776)
def kD:Int->List Int->Bool
 |_,[]=>true
 |last,n::l=>decide (last<n)&&decide (n<=15)&&kD n l
def Dw (m:Ma):Bool:=decide (m.ref=0)&& !m.rev&&m.path.isEmpty&&m.fP.isEmpty&&decide (m.gap=0)
structure Tr where
  id:Int
  len:Int
  rl:Rl
  side:Int
  fG:Int
  sl:Int
  sa:Int
  sb:Int
  free:Bool
  last:Int
  on:Bool
  pos:Ps
  ref:Int
  past:Int
  rev:Bool
  ma:Ma
  at_:Int
  held:Bool
  stops:List Int
def wY (t:Tp) (x:Tr):Bool:=Dv x.rl&&decide (0<=x.id)&&decide (x.id<16777216)&&decide (1<=x.len)&&decide (x.len<=32766)&&decide (x.side=0)&&decide (x.fG=x.id)&&lJ x.sa&&lJ x.sb&&(decide (x.sl= -1) || lJ x.sl)&&decide (-1<=x.last)&&decide (x.last<=4294967294)&&pO t x.pos&&decide (0<=x.past)&&decide (x.past<=1099511627776)&&kD (-1) x.stops&&(oz t x.ref).isSome&&decide (0<=x.at_)&&decide (x.at_<=268435456)&&(if x.held then rX t x.ma else Dw x.ma&&decide (x.at_=0))
def Nw (t:Tp) (m:Ma):Option Int:=match oz t m.ref with
 |none=>none
 |some b=>if(F5 t m.path (uI b m.rev)).2=0 then some (F5 t m.path (uI b m.rev)).1 else none
def qZ (t:Tp) (m:Ma) (p:Ps):Option Int:=match Nw t m with
 |none=>none
 |some b=>if(F5 t m.path p).2=0/\b<=(F5 t m.path p).1 then some ((F5 t m.path p).1-b) else none
def jR (t:Tp) (x:Tr):Option Int:=if wY t x=true/\x.held=true then qZ t x.ma x.pos else none
def Jv (t:Tp) (x:Tr) (now:Int):List Sp:=match jR t x with
 |none=> []
 |some n=>if x.stops≠ []\/jK now=false then [] else if jB x.ma.fP (now-x.at_) 0<=n then [] else yH t x.ma n (jB x.ma.fP (now-x.at_) 0)
def rC (t:Tp) (x:Tr) (n now:Int):Int:=match jR t x with
 |none=>6
 |some a=>if x.stops≠ [] then 6 else if n<1 then 1 else if jB x.ma.fP (now-x.at_) 0-a<n then 141 else 0
def Iy (t:Tp) (x:Tr) (fr kL:Int):List Bl->Int × Int × Bool × Int->Int × Int × Bool × Int
 | [],r=>r
 |g::l,r=>match x.ma.path.find? (fun s=>decide (s.edge=g.edge)) with
   |none=>Iy t x fr kL l r
   |some s=>let o:=(F5 t x.ma.path ⟨g.edge,g.at_,s.rev⟩).1
     if r.1<o/\o<=kL then Iy t x fr kL l (o,g.id,s.rev,kL-o) else Iy t x fr kL l r
def zW (t:Tp) (x:Tr) (n:Int):Tr:=match jR t x,Nw t x.ma with
 |some a,some b=>let r:=Iy t x (b+a) (b+a+n) t.jW (b+a,x.ref,x.rev,x.past+n)
   {x with pos:=Zm t x.ma.path (b+a+n),ref:=r.2.1,rev:=r.2.2.1,past:=r.2.2.2}
 |_,_=>x
def iE:Tp:=⟨[100,200,300],[⟨⟨0,1⟩,⟨1,0⟩⟩,⟨⟨1,1⟩,⟨2,0⟩⟩],[⟨7,0,10⟩,⟨8,1,20⟩,⟨9,2,30⟩],[⟨1,[⟨0,false⟩,⟨1,false⟩],0,30⟩,⟨2,[⟨1,false⟩,⟨2,false⟩],50,20⟩]⟩
def abG:Ma:=⟨7,false,[⟨0,false⟩,⟨1,false⟩],[⟨290,30⟩],0⟩
def O1:Rl:=⟨100,100,10,2,50,70,20,0,0⟩
def iH:Tr:=⟨5,400,O1,0,5,-1,100,100,false,-1,false,⟨0,50,false⟩,7,40,false,abG,3,true,[]⟩
def Ny(t:Tp)(v:Yd)(e:Int)(w:ω):Γ aj 76 #[v.cells t,e] w λr w'=>r=.returned (.bool (iW t e))/\w w':=by
 unfold Yd.cells iW;generalize t.edges.length=n1;generalize t.iI.length=n2;generalize t.jW.length=n3;generalize t.routes.length=n4;obtain⟨A1,c1,A2,c2,A3,c3,A4,c4,rs⟩:=v;simp only;have j:Own w _ [_]:=(Own.nil w).alloc 27 #[.slice A1 n1 c1,.slice A2 n2 c2,.slice A3 n3 c3,.slice A4 n4 c4] _ rfl;have J:=j.b0.cell;by_cases H:0<=e;.rw[decide_eq_true H];go_enter func76,ntmps76;go_wp2_with fail;go_ret;exact⟨by simp,j.below⟩
 .rw[decide_eq_false H];go_enter func76,ntmps76;go_wp2_with fail;go_ret;exact⟨by simp,j.below⟩
abbrev qB (s:St):Θ:=.agg #[.int .i64 s.edge,.bool s.rev]
abbrev RH (s:En):Θ:=.agg #[.int .i64 s.edge,.int .i64 s.at_]
abbrev blV (b:Bl):Θ:=.agg #[.int .i64 b.id,.int .i64 b.edge,.int .i64 b.at_]
def nC{j:τ}(h:fn.results= #[.cell a j])(tmps:Array Θ)(w:ω)(H:Nat)(c1:Array Θ)(J:TypeDesc)(M:tmps.getD a υ=.pointer H)(K:fK w H j c1)(U:P.underlying j=some J)(k1:(match J with | .struct _ | .array _ _=>true |_=>false)=true)(O:(P.info? j).map (·.size)=some c1.size):(results fn tmps).run P w=.ok c1 w:=by
 have N:tmps[a]?.getD υ=.pointer H:=by simpa using M
 simp[results,h,N,asAddr,run_loadVar_row w H j j c1 (0,0) J K U k1 O]
def Jw(s:St)(w:ω):Γ aj 184 #[qB s] w λr w'=>r=.returned (RH (kC s))/\w w':=by
 obtain⟨e,r⟩:=s;have j:Own w _ [_,_]:=((Own.nil w).alloc 58 #[e,r] _ rfl).alloc 125 gF _ rfl;have H:=j.b0.cell;cases r;focus(go_enter func184,ntmps184;go_wp2_with fail;replace j:Own w _ [_,_]:=Own.iY w 58 125 #[e,false] #[e,zI])
 rotate_left;focus(go_enter func184,ntmps184;go_wp2_with fail;replace j:Own w _ [_,_]:=Own.iY w 58 125 #[e,true] #[e,(1:Int)])
 all_goals(exact β (nC results184 _ _ _ _ _ rfl j.b1 underlying125 rfl (by kernel_rfl)) rfl ⟨rfl,j.below⟩)
def Jy(s:St)(w:ω):Γ aj 181 #[qB s] w λr w'=>r=.returned (RH (nZ s))/\w w':=by obtain⟨e,r⟩:=s;have N:Own w _ [_,_]:=Own.iY w 58 125 #[e,r] gF;have j:Own w _ [_,_]:=Own.iY w 58 125 #[e,.bool !r] gF;have V:=N.b0.cell;have J:=λW=>Jw ⟨e,!r⟩ W;unfold nZ;generalize Y:kC ⟨e,!r⟩=x at J;obtain⟨U,O⟩:=x;simp only[qB,RH]at J |-;go_enter func181,ntmps181;go_wp2_with(first|((with_reducible refine(J _).mono ?_);rintro M H⟨rfl,K⟩;replace j:=j.grow K)|((with_reducible refine kY (#[U,O]) j rfl _ _ rfl rfl rfl (by kernel_rfl) rfl ?_ ?_);(.first|(simp[aK];done));intro M H K Z;replace j:=H;clear H));exact β (nC results181 _ _ _ _ _ rfl j.b1 underlying125 rfl (by kernel_rfl)) rfl ⟨rfl,j.below⟩
def abH(b:Bl)(id:Int)(A:δ)(w:ω)(hA:w.cell? A=some id)(H:A.block<w.heap.size):Γ aj 88 #[blV b,.pointer (some A)] w λr w'=>r=.returned (.bool (decide (b.id=id)))/\w w':=by obtain⟨b1,b2,b3⟩:=b;have j:Own w _ [_]:=(Own.nil w).alloc 114 #[b1,b2,b3] _ rfl;have K:=j.b0.cell;have J:=(j.below.cell (p:=A) H).trans hA;go_enter func88,ntmps88;go_wp2_with fail;go_ret;refine⟨?_,j.below⟩;by_cases h:b1=id <;> simp[h]
def LU:Go.Shelf.Ren:=⟨fun |6=>87 |n=>n,fun |22=>24 |23=>114 |25=>172 |3=>3 |0=>0 |4=>4 |n=>n,fun |n=>n⟩
def Nz:Go.Proofs.SlLaysH0.n6 aj LU where
  mixed:=by rfl
  f6:=⟨ "slices.IndexFunc[[]lineside/api.Bal,lineside/api.Bal]",by decide,Tryz.func87.trans (ξ some (by rfl))⟩
  t0:=underlying0
  a0:=isAgg0
  z0:=sizeOf0
  v0:=zeroValue0
  t3:=bG
  a3:=isAgg3
  z3:=sizeOf3
  v3:=zeroValue3
  t4:=dL
  a4:=isAgg4
  z4:=sizeOf4
  v4:=zeroValue4
  t22:=underlying24
  a22:=isAgg24
  z22:=sizeOf24
  v22:=zeroValue24
  t25:=underlying172
  a25:=isAgg172
  z25:=sizeOf172
  v25:=zeroValue172
instance:Inhabited Bl:=⟨⟨0,0,0⟩⟩
def VT: ∀args w,(ϕ 88 args).run aj w=.ok (.enter 88 args) w:=enters_of func88 (by rfl) (by rfl)
def aft(A:Option δ)(n c:Nat)(bs:List Bl)(id:Int)(p:δ)(w:ω)(H:fE qW w A bs)(hn:bs.length=n)(N:n<=9223372036854775807)(U:w.cell? p=some id)(K:p.block<w.heap.size):Γ aj 87 #[.slice A n c,.func (.func 88) #[] #[.pointer (some p)]] w λe w'=>e=.returned (Lib.idxBy (λ_ y=>decide (y.id=id)) bs default:Int)/\w w':=by
 cases n with
 |zero=>
  have:bs= []:=dh.1 hn;subst this;go_enter func87,ntmps87;go_wp2;go_loopg [5,8] 0 (λ_ _ Z wr=>Z=.int .i64 0/\w wr);case atStart=>exact⟨rfl,aH _ _⟩
  case round=>obtain⟨rfl,V⟩:=hrel;go_wp2;go_ret;exact⟨rfl,V⟩
 |succ n=>
  have M:0<bs.length:=by omega
  obtain⟨b,off,rfl,O,_⟩:=H.get (aI M);have:=AnyQ.slices_IndexFunc Nz 3 isAgg114 sizeOf114 qW.enc qW.len (λy=>decide (y.id=id)) 88 #[.pointer (some p)] VT b off (n+1) c bs w (λW x j=>(abH x id p W ((j.cell (p:=p) K).trans U) (aU K j.size)).mono λ_ _ h=>⟨h.1,gZ j h.2⟩) (by omega) N O ?_;.rw[<-hn,List.take_length]at this;rw[<-hn];exact this
  .intro Y J i u hi;obtain⟨b',aa,e,_,hc⟩:=H.get (aI J);simp only[aO,cZ]at e;obtain⟨rfl,rfl,-⟩:=e;rw[getElem!_pos bs Y J]at hi;exact hc i u hi
def RI(q:Bl->Bool): ∀(bs:List Bl) (i:Nat),(∃j,Lib.idxByFrom (λ_ y=>q y) default bs i=((i+j:Nat):Int)/\bs[j]? =bs.find? q/\(bs.find? q).isSome=true)\/(Lib.idxByFrom (λ_ y=>q y) default bs i= -1/\bs.find? q=none)
 | [],i=> .inr ⟨rfl,rfl⟩
 |y::bs,i=>by
  rw[Lib.idxByFrom,List.find?_cons];cases M:q y with
  |false=>simp only[bU,if_false];rcases RI q bs (i+1) with⟨j,J,K,H⟩ |h;(.exact .inl ⟨j+1,by omega,by grind,H⟩);grind
  |true=>exact .inl ⟨0,by simp,by simp,rfl⟩
def gU{c:Tmp}{j:τ}(h:fn.results= #[.cell a j,.tmp c])(tmps:Array Θ)(w:ω)(H:Nat)(c1:Array Θ)(v:Θ)(J:TypeDesc)(V:tmps.getD a υ=.pointer H)(hc:tmps.getD c υ=v)(K:fK w H j c1)(U:P.underlying j=some J)(k1:(match J with | .struct _ | .array _ _=>true |_=>false)=true)(O:(P.info? j).map (·.size)=some c1.size):(results fn tmps).run P w=.ok (.tuple #[c1,v]) w:=by
 have M:tmps[a]?.getD υ=.pointer H:=by simp_all
 have N:tmps[c]?.getD υ=v:=by simp_all
 simp[results,h,M,N,asAddr,run_loadVar_row w H j j c1 (0,0) J K U k1 O]
def afu(t:Tp)(v:Yd)(id:Int)(w:ω)(N:fE qW w v.Ab t.jW)(hn:t.jW.length<=9223372036854775807):Γ aj 49 #[v.cells t,id] w λr w'=>r=.returned (.tuple #[blV ((oz t id).getD ⟨0,0,0⟩),.bool (oz t id).isSome])/\w w':=by
 unfold Yd.cells;have O:=RI (λb=>decide (b.id=id)) t.jW 0;have hB:(t.jW.find? λb=>decide (b.id=id))=oz t id:=rfl;rw[hB]at O;generalize oz t id=r at O |-;obtain⟨bs,aa⟩:=fD t.jW;rw[<-aa]at N hn O |-;generalize hm:bs.length=n3 at hn |-;generalize t.edges.length=n1;generalize t.iI.length=n2;generalize t.routes.length=n4;obtain⟨A1,c1,A2,c2,A3,c3,A4,c4,rs⟩:=v;simp only at N |-;have j:Own w _ [_,_,_]:=Own.start3 w 27 3 114 #[.slice A1 n1 c1,.slice A2 n2 c2,.slice A3 n3 c3,.slice A4 n4 c4] #[id] gC;have ad:=j.b0.cell;have ac:=j.b1.cell 0;have K:=aft A3 n3 c3 bs id ⟨w.heap.size+1,0,none⟩ _ (N.below j.below) hm hn ac j.b1.lt;unfold Lib.idxBy at K;rcases O with⟨U,Y,Z,h3⟩ |⟨Y,Z⟩;focus(obtain⟨b,rfl⟩:=Option.isSome_iff_exists.1 h3;rw[Y,aJ]at K;(have hj:U<n3:=by grind);obtain⟨g,off,rfl,hg,l0,l1,l2⟩:=N.bl Z;obtain⟨b1,b2,b3⟩:=b;simp only at l0 l1 l2;have k0:=λW (J:w W)=>(J.cell (p:=⟨g,off+U*3,none⟩) hg).trans l0;have k1:=λW (J:w W)=>(J.cell (p:=⟨g,off+U*3+1,none⟩) hg).trans l1;have k2:=λW (J:w W)=>(J.cell (p:=⟨g,off+U*3+2,none⟩) hg).trans l2;go_enter func49,ntmps49;go_wp2_with(first|((with_reducible refine K.mono ?_);rintro V H⟨rfl,M⟩;replace j:=j.grow M;have jQ:=j.b0.cell;have uK:=k0 H j.below;have sK:=k1 H j.below;have O4:=k2 H j.below)|((with_reducible refine jv (#[b1,b2,b3]) j rfl _ _ rfl rfl rfl (by kernel_rfl) rfl ?_ ?_);(.first|(simp[aK];done));intro V H M jQ;replace j:=H;clear H)))
 rotate_left;focus(subst Z;rw[Y]at K;go_enter func49,ntmps49;go_wp2_with(first|((with_reducible refine K.mono ?_);rintro V H⟨rfl,M⟩;replace j:=j.grow M)|((with_reducible refine jv gC j rfl _ _ rfl rfl rfl (by kernel_rfl) rfl ?_ ?_);(.first|(simp[aK];done));intro V H M jQ;replace j:=H;clear H)))
 all_goals(exact β (gU results49 _ _ _ _ _ _ rfl rfl j.b2 underlying114 rfl (by kernel_rfl)) rfl ⟨rfl,j.below⟩)
def LV:Go.Shelf.Ren:=⟨fun |7=>126 |6=>180 |n=>n,fun |22=>23 |24=>127 |4=>4 |0=>0 |3=>3 |n=>n,fun |n=>n⟩
def Zn:Go.Proofs.SlLaysQ.n7 aj LV where
  mixed:=by rfl
  f6:=⟨ "slices.Index[[]lineside/api.Joint,lineside/api.Joint]",by decide,Tryz.func180.trans (ξ some (by rfl))⟩
  f7:=⟨ "slices.Contains[[]lineside/api.Joint,lineside/api.Joint]",by decide,Tryz.func126.trans (ξ some (by rfl))⟩
  t0:=underlying0
  a0:=isAgg0
  z0:=sizeOf0
  v0:=zeroValue0
  t3:=bG
  a3:=isAgg3
  z3:=sizeOf3
  v3:=zeroValue3
  t4:=dL
  a4:=isAgg4
  z4:=sizeOf4
  v4:=zeroValue4
  t22:=underlying23
  a22:=isAgg23
  z22:=sizeOf23
  v22:=zeroValue23
instance:Inhabited Jt:=⟨⟨⟨0,0⟩,⟨0,0⟩⟩⟩
def VU (x y:Jt):Bool:=(x.a.edge==y.a.edge&&x.a.at_==y.a.at_)&&(x.b.edge==y.b.edge&&x.b.at_==y.b.at_)
def alF:EqlAt aj 127 (λx=> .agg (qV.enc x).toArray) VU:=by
 refine⟨λx y w=>?_,GuardAt.agg _ (by simp)⟩;have u3:=bG;have a3:=isAgg3;have z3:=sizeOf3;have uE:=underlying125;have aE:=isAgg125;have zE:=sizeOf125;have M:aj.underlying 127=some (.struct (aj.fieldsOf 127)):=by kernel_rfl
 have N:aj.stoodInHeld 127=false:=by simp
 have aa:aj.stoodInHeld 125=false:=by simp
 simp only[qV];rw[ϑ,show(10000:Nat)=9998+1+1 from rfl,ϐ w (9998+1) 127 _ _ M N];simp only[Program.fieldsOf,underlying127];go_simp;obtain⟨⟨O,U⟩,⟨V,Y⟩⟩:=x;obtain⟨⟨Z,y2⟩,⟨y3,y4⟩⟩:=y;unfold VU;by_cases j:O=Z <;> by_cases H:U=y2 <;> by_cases J:V=y3 <;> by_cases K:Y=y4 <;> simp[j,H,J,K]
def aiR(A:Option δ)(c:Nat)(x:Jt)(w:ω):Γ aj 180 #[.slice A 0 c,.agg (qV.enc x).toArray] w λe w'=>e=.returned (-1:Int)/\w w':=by
 have j:Own w _ [_]:=(Own.nil w).alloc 127 (qV.enc x).toArray _ rfl;go_enter func180,ntmps180;go_wp2;go_loopg [5,8] 0 (λ_ _ H wr=>H=.int .i64 0/\w wr);case atStart=>exact⟨rfl,j.below⟩
 case round=>obtain⟨rfl,J⟩:=hrel;go_wp2;go_ret;simp_all
def Yh(A:Option δ)(n c:Nat)(j:List Jt)(x:Jt)(w:ω)(K:fE qV w A j)(hn:j.length=n)(N:n<=9223372036854775807):Γ aj 126 #[.slice A n c,.agg (qV.enc x).toArray] w λe w'=>e=.returned (.bool (j.any λy=>VU x y))/\w w':=by
 cases n with
 |zero=>have:j= []:=dh.1 hn;subst this;have H:Own w _ [_]:=(Own.nil w).alloc 127 (qV.enc x).toArray _ rfl;have Z:=H.b0.cell;have J:=λW=>aiR A c x W;simp only[qV] at*;go_enter func126,ntmps126;go_wp2_with(first|((with_reducible refine(J _).mono ?_);rintro e w1⟨rfl,O⟩;replace H:=H.grow O));go_ret;exact⟨rfl,H.below⟩
 |succ n=>
  have J:0<j.length:=by omega
  obtain⟨b,off,rfl,Y,_⟩:=K.get (aI J);have:=AnyQ.slices_Contains Zn 4 isAgg127 sizeOf127 qV.enc qV.len VU alF b off (n+1) c j x w (by omega) N ?_;.rw[<-hn,List.take_length]at this;rw[<-hn];exact this
  .intro U M i u hi;obtain⟨V,aa,e,_,hc⟩:=K.get (aI M);simp only[aO,cZ]at e;obtain⟨rfl,rfl,-⟩:=e;rw[getElem!_pos j U M]at hi;exact hc i u hi
def afv(x y:Jt):VU x y=decide (x=y):=by obtain⟨⟨M,N⟩,⟨O,U⟩⟩:=x;obtain⟨⟨V,Y⟩,⟨Z,y4⟩⟩:=y;unfold VU;by_cases j:M=V <;> by_cases H:N=Y <;> by_cases J:O=Z <;> by_cases K:U=y4 <;> simp[j,H,J,K]
def aiS(j:List Jt)(x:Jt):(j.any λy=>VU x y)=decide (x∈j):=by rw[Bool.eq_iff_iff];simp[afv]
def NC(t:Tp)(v:Yd)(a b:En)(w:ω)(U:fE qV w v.Aj t.iI)(hn:t.iI.length<=9223372036854775807):Γ aj 75 #[v.cells t,RH a,RH b] w λr w'=>r=.returned (.bool (zU t.iI a b))/\w w':=by
 unfold Yd.cells zU;have H:=λW (M:w W)=>Yh v.Aj t.iI.length v.cj t.iI ⟨a,b⟩ W (U.below M) rfl hn;have K:=λW (M:w W)=>Yh v.Aj t.iI.length v.cj t.iI ⟨b,a⟩ W (U.below M) rfl hn;simp only[aiS]at H K;generalize decide (⟨a,b⟩∈t.iI)=r1 at H |-;generalize decide (⟨b,a⟩∈t.iI)=r2 at K |-;generalize t.iI.length=n2 at*;generalize t.edges.length=n1;generalize t.jW.length=n3;generalize t.routes.length=n4;obtain⟨A1,c1,A2,c2,A3,c3,A4,c4,rs⟩:=v;obtain⟨V,a2⟩:=a;obtain⟨b1,b2⟩:=b;simp only[qV]at H K |-;have j:Own w _ [_,_,_]:=Own.start3 w 27 125 125 #[.slice A1 n1 c1,.slice A2 n2 c2,.slice A3 n3 c3,.slice A4 n4 c4] #[V,a2] #[b1,b2];have aa:=j.b0.cell;have uU:=j.b1.cell;have EF:=j.b2.cell;cases r1;.go_enter func75,ntmps75;go_wp2_with(first|((with_reducible refine(H _ j.below).mono ?_);rintro O N⟨rfl,J⟩;replace j:=j.grow J;have Y:=j.b0.cell;have uK:=j.b1.cell;have Z:=j.b2.cell)|((with_reducible refine(K _ j.below).mono ?_);rintro O N⟨rfl,J⟩;replace j:=j.grow J));go_ret;exact⟨by simp,j.below⟩
 .go_enter func75,ntmps75;go_wp2_with(first|((with_reducible refine(H _ j.below).mono ?_);rintro O N⟨rfl,J⟩;replace j:=j.grow J;have Y:=j.b0.cell;have uK:=j.b1.cell;have Z:=j.b2.cell));go_ret;exact⟨by simp,j.below⟩
def afw(t:Tp)(v:Yd)(a b:St)(w:ω)(hR:fE qV w v.Aj t.iI)(hn:t.iI.length<=9223372036854775807):Γ aj 186 #[v.cells t,qB a,qB b] w λr w'=>r=.returned (.bool (OY t a b))/\w w':=by
 have Y:=λW (hW:w W)=>NC t v (nZ a) (kC b) W (hR.below hW) hn;have hl:=λW=>Jy a W;have he:=λW=>Jw b W;unfold OY;unfold Yd.cells at Y |-;generalize zU t.iI (nZ a) (kC b)=r at Y |-;generalize nZ a=la at*;generalize kC b=eb at*;generalize t.iI.length=n2 at*;generalize t.edges.length=n1 at*;generalize t.jW.length=n3 at*;generalize t.routes.length=n4 at*;obtain⟨A1,c1,A2,c2,A3,c3,A4,c4,rs⟩:=v;obtain⟨Z,a2⟩:=a;obtain⟨b1,b2⟩:=b;obtain⟨l1,l2⟩:=la;obtain⟨e1,e2⟩:=eb;simp only[qB,RH]at Y hl he |-;go_enter func186,ntmps186;go_wp2_with fail;have H:Own w _ [_,_,_]:=Own.start3 w 27 58 58 #[.slice A1 n1 c1,.slice A2 n2 c2,.slice A3 n3 c3,.slice A4 n4 c4] #[Z,a2] #[b1,b2];generalize (((w.alloc (.cells #[.slice A1 n1 c1,.slice A2 n2 c2,.slice A3 n3 c3,.slice A4 n4 c4] 27)).alloc (.cells #[Z,a2] 58)).alloc (.cells #[b1,b2] 58))=W0 at H |-;apply iM;case lX=>intro u;simp only[bV,aq9,aP,ay,aA,aB,aT,aJ];rfl
 case hm=>kernel_rfl
 case hB=>kernel_rfl
 case hap=>kernel_rfl
 iterate 4(first|(apply Lex.is;·(intro u w' j J;simp[fH,aC,Is]at J;refine fF (by first |rfl) ?_;intro N K;have O:=(H.grow j).b0.cell;have U:=(H.grow j).b1.cell;have V:=(H.grow j).b2.cell;go_wp2_with((with_reducible refine(hl _).mono ?_);rintro e w3⟨rfl,M⟩);(try simp only[J]at K);refine K _ _ ?_ rfl;first|exact M))|(apply Lex.is;·(intro u w' j J;simp[fH,aC]at J;refine fF (by first |rfl) ?_;intro N K;have O:=(H.grow j).b0.cell;have U:=(H.grow j).b1.cell;have V:=(H.grow j).b2.cell;go_wp2_with(fail);refine K _ _ ?_ rfl;first|exact aH _ _)))
 apply Lex.is;·(intro u w' j J;simp[fH,aC,Is]at J;refine fF (by first |rfl) ?_;intro N K;have O:=(H.grow j).b0.cell;have U:=(H.grow j).b1.cell;have V:=(H.grow j).b2.cell;go_wp2_with((with_reducible refine(he _).mono ?_);rintro e w3⟨rfl,M⟩);(try simp only[J]at K);refine K _ _ ?_ rfl;first|exact M)
 apply Lex.is;·(intro u w' j J;simp[fH,aC,Is]at J;refine fF (by first |rfl) ?_;intro N K;have O:=(H.grow j).b0.cell;have U:=(H.grow j).b1.cell;have V:=(H.grow j).b2.cell;go_wp2_with((with_reducible refine(Y _ (H.grow j).below).mono ?_);rintro e w3⟨rfl,M⟩);(try simp only[J]at K);refine K _ _ ?_ rfl;first|exact M)
 apply Lex.is;·(intro u w' j J;simp[fH,aC,Is]at J;refine fF (by first |rfl) ?_;intro N K;have O:=(H.grow j).b0.cell;have U:=(H.grow j).b1.cell;have V:=(H.grow j).b2.cell;go_wp2_with(fail);(try simp only[J]at K);refine K _ _ ?_ rfl;first|exact aH _ _)
 apply Lex.nil;intro u w' j J;simp only[gQ]at J;have aa:=J 6 _ rfl;simp only[Is]at aa;go_wp2_with fail;go_ret;exact⟨ξ Ending.returned aa,gZ H.below j⟩
def afx(t:Tp)(v:Yd)(x:En)(w:ω):Γ aj 74 #[v.cells t,RH x] w λr w'=>r=.returned (.bool (Cj t x))/\w w':=by
 have H:=λW=>Ny t v x.edge W;unfold Cj;unfold Yd.cells at H |-;generalize iW t x.edge=r at H |-;generalize t.iI.length=n2 at*;generalize t.edges.length=n1 at*;generalize t.jW.length=n3 at*;generalize t.routes.length=n4 at*;obtain⟨A1,c1,A2,c2,A3,c3,A4,c4,rs⟩:=v;obtain⟨e,a⟩:=x;simp only[RH]at H |-;have j:Own w _ [_,_]:=Own.iY w 27 125 #[.slice A1 n1 c1,.slice A2 n2 c2,.slice A3 n3 c3,.slice A4 n4 c4] #[e,a];have U:=j.b0.cell;have V:=j.b1.cell;by_cases K:a=0;.subst K;cases r;all_goals go_enter func74,ntmps74;go_wp2_with(first|((with_reducible refine(H _).mono ?_);rintro e M⟨rfl,J⟩;replace j:=j.grow J;have O:=j.b1.cell));go_ret;exact⟨by simp,j.below⟩
 .cases r;all_goals go_enter func74,ntmps74;go_wp2_with(first|((with_reducible refine(H _).mono ?_);rintro e M⟨rfl,J⟩;replace j:=j.grow J;have O:=j.b1.cell));go_ret;refine⟨?_,j.below⟩;by_cases N:a=1 <;> simp[K,N]
def O5(t:Tp): ∀p:List St,Iw t p=true<-> ∀j a b,p[j]? =some a->p[j+1]? =some b->OY t a b=true
 | []=>by simp[Iw]
 | [x]=>by simp only[Iw,true_iff];simp
 |x::y::p=>by
  rw[Iw,bM,O5 t (y::p)];constructor;.grind
  .intro h;exact⟨h 0 x y rfl rfl,λj a b H J=>h (j+1) a b (by grind) (by grind)⟩
def aiT{t:Tp}{p:List St}{j:Nat}{a b:St}(H:p[j]? =some a)(J:p[j+1]? =some b)(h:OY t a b=false):Iw t p=false:=by cases K:Iw t p with|false=>rfl|true=>have:=(O5 t p).1 K j a b H J;rw[h]at this;cases this
section
section
variable {P:χ} {ops:Array ο} {rest:List ο} {o:ο} {a:Act} {w W:ω} {Q:Exit->Act->ω->Prop}
def Own.afy(h:Own w W [])(t:τ)(cs:Array Θ):Own w (W.alloc (.cells cs t)) [(W,t,cs)]:=h.alloc t cs _ rfl
def Own.new1{j:Bk}(h:Own w W [j])(t:τ)(cs:Array Θ):Own w (W.alloc (.cells cs t)) [j,(W,t,cs)]:=h.alloc t cs _ rfl
def Own.b9{j H J K M N O U V:Bk}{L:List Bk}{g:Nat}{t:τ}{cs:Array Θ}(Y:Own w W (j::H::J::K::M::N::O::U::V::(g,t,cs)::L)):fK W g t cs:=Own.at_ (L1:= [j,H,J,K,M,N,O,U,V]) Y
def Own.b10{j H J K M N O U V Y:Bk}{L:List Bk}{g:Nat}{t:τ}{cs:Array Θ}(Z:Own w W (j::H::J::K::M::N::O::U::V::Y::(g,t,cs)::L)):fK W g t cs:=Own.at_ (L1:= [j,H,J,K,M,N,O,U,V,Y]) Z
def Own.b11{j H K M N O U V Y Z J:Bk}{L:List Bk}{g:Nat}{t:τ}{cs:Array Θ}(hO:Own w W (j::H::K::M::N::O::U::V::Y::Z::J::(g,t,cs)::L)):fK W g t cs:=Own.at_ (L1:= [j,H,K,M,N,O,U,V,Y,Z,J]) hO
def Own.b12{j H M N O U V Y Z x9 J K:Bk}{L:List Bk}{g:Nat}{t:τ}{cs:Array Θ}(hO:Own w W (j::H::M::N::O::U::V::Y::Z::x9::J::K::(g,t,cs)::L)):fK W g t cs:=Own.at_ (L1:= [j,H,M,N,O,U,V,Y,Z,x9,J,K]) hO
def Own.b14{j H O U V Y Z x7 x8 x9 J K M N:Bk}{L:List Bk}{g:Nat}{t:τ}{cs:Array Θ}(hO:Own w W (j::H::O::U::V::Y::Z::x7::x8::x9::J::K::M::N::(g,t,cs)::L)):fK W g t cs:=Own.at_ (L1:= [j,H,O,U,V,Y,Z,x7,x8,x9,J,K,M,N]) hO
end
def is8:Θ->Bool
 | .int .u8 _=>true
 |_=>false
def aq2.apart{w w':ω}{A:Option δ}{c:Nat}{bs:List UInt8}{g:Nat}{t:τ}{cs:Array Θ}(h:aq2 w A c bs)(K:fK w g t cs)(hn:cs.all (λv=> !is8 v)=true)(Y:w'.heap.size=w.heap.size)(M: ∀k,k≠g->w'.heap[k]? =w.heap[k]?):aq2 w' A c bs:=by
 refine⟨λj=>?_,h.cap,h.max⟩;have J:0<bs.length:=by rwa [aq8]at j
 obtain⟨b,off,rfl,V,hc⟩:=h.row j;have N:b≠g:=by rintro rfl;have H:=hc 0 _ (arK bs 0 J);rw[K.cell]at H;rw[Array.all_eq_true]at hn;obtain⟨hi,e⟩:=dM.1 H;have:=hn _ hi;rw[e]at this;simp[is8,q8]at this
 refine⟨b,off,rfl,by omega,λU u O=>?_⟩;rw[World.cell?_of_block (M b N)];exact hc U u O
end
section
def ark{α:Type}{l:List α}{k:Nat}{x:α}(h:l[k]? =some x):l.drop k=x::l.drop (k+1):=by obtain⟨j,rfl⟩:=aX.1 h;exact List.drop_eq_getElem_cons j
def take_snoc'{α:Type}{l:List α}{k:Nat}{x:α}(h:l[k]? =some x):l.take (k+1)=l.take k++ [x]:=by obtain⟨j,rfl⟩:=aX.1 h;exact List.take_succ_eq_append_getElem j
def aq5{α:Type}{l:List α}{k n:Nat}(hn:l.length=n)(h:k<n): ∃x,l[k]? =some x:=⟨l[k]'(by omega),aI (by omega)⟩
def fE.part{α:Type}{E:arb α}{w:ω}{A:Option δ}{xs:List α}(h:fE E w A xs)(i:Nat):fE E w A (xs.take i):=by
 cases A with
 |none=>
  have j:xs= []:=by cases xs with|nil=>rfl|cons x xs=>obtain⟨b,off,e,_⟩:=h.get (i:=0) rfl;cases e
  grind
 |some a=>cases xs with|nil=>grind|cons x xs=>obtain⟨b,off,e,_⟩:=h.get (i:=0) rfl;cases e;exact h.take i
structure jl where
  A1:Option δ
  n1:Nat
  c1:Nat
  A2:Option δ
  n2:Nat
  c2:Nat
  A3:Option δ
  n3:Nat
  c3:Nat
  A4:Option δ
  n4:Nat
  c4:Nat
  rs:List (Rt × Option δ × Nat)
def jl.cells (m:jl):Array Θ:= #[.slice m.A1 m.n1 m.c1,.slice m.A2 m.n2 m.c2,.slice m.A3 m.n3 m.c3,.slice m.A4 m.n4 m.c4]
def jl.v (m:jl):Yd:=⟨m.A1,m.c1,m.A2,m.c2,m.A3,m.c3,m.A4,m.c4,m.rs⟩
structure jE (w:ω) (t:Tp) (m:jl):Prop where
  lies:abx w t m.A1 m.A2 m.A3 m.A4 m.rs
  e1:t.edges.length=m.n1
  e2:t.iI.length=m.n2
  e3:t.jW.length=m.n3
  e4:t.routes.length=m.n4
  l1:m.n1<=100
  l2:m.n2<=100
  l3:m.n3<=100
  l4:m.n4<=100
  l5: ∀r∈t.routes,r.path.length<=100
  q1:m.n1<=m.c1
  q2:m.n2<=m.c2
  q3:m.n3<=m.c3
  q4:m.n4<=m.c4
  q5: ∀p∈m.rs,p.1.path.length<=p.2.2
def jE.below{w w':ω}{t:Tp}{m:jl}(h:jE w t m)(j:w w'):jE w' t m:={h with lies:=h.lies.below j}
def jE.cells{w:ω}{t:Tp}{m:jl}(h:jE w t m):m.v.cells t=m.cells:=by unfold Yd.cells jl.cells jl.v;rw[h.e1,h.e2,h.e3,h.e4]
section
variable {w:ω} {t:Tp} {m:jl}
def EG(h:jE w t m)(e:Int)(W:ω):Γ aj 76 #[m.cells,e] W λr w'=>r=.returned (.bool (iW t e))/\W w':=by rw[<-h.cells];exact Ny t m.v e W
def afz(h:jE w t m)(a b:En):Γ aj 75 #[m.cells,RH a,RH b] w λr w'=>r=.returned (.bool (zU t.iI a b))/\w w':=by rw[<-h.cells];exact NC t m.v a b w h.lies.iI (by have:=h.l2;rw[h.e2];omega)
def alG(h:jE w t m)(a b:St):Γ aj 186 #[m.cells,qB a,qB b] w λr w'=>r=.returned (.bool (OY t a b))/\w w':=by rw[<-h.cells];exact afw t m.v a b w h.lies.iI (by have:=h.l2;rw[h.e2];omega)
def ah7(h:jE w t m)(x:En)(W:ω):Γ aj 74 #[m.cells,RH x] W λr w'=>r=.returned (.bool (Cj t x))/\W w':=by rw[<-h.cells];exact afx t m.v x W
def Hw(h:jE w t m)(id:Int):Γ aj 49 #[m.cells,id] w λr w'=>r=.returned (.tuple #[blV ((oz t id).getD ⟨0,0,0⟩),.bool (oz t id).isSome])/\w w':=by rw[<-h.cells];exact afu t m.v id w h.lies.jW (by have:=h.l3;rw[h.e3];omega)
end
end
def LW:Go.Shelf.Ren:=⟨fun |6=>131 |n=>n,fun |22=>25 |23=>97 |25=>217 |3=>3 |0=>0 |4=>4 |n=>n,fun |n=>n⟩
def Zo:Go.Proofs.SlLaysH0.n6 aj LW where
  mixed:=by rfl
  f6:=⟨ "slices.IndexFunc[[]lineside/api.Route,lineside/api.Route]",by decide,Tryz.func131.trans (ξ some (by rfl))⟩
  t0:=underlying0
  a0:=isAgg0
  z0:=sizeOf0
  v0:=zeroValue0
  t3:=bG
  a3:=isAgg3
  z3:=sizeOf3
  v3:=zeroValue3
  t4:=dL
  a4:=isAgg4
  z4:=sizeOf4
  v4:=zeroValue4
  t22:=underlying25
  a22:=isAgg25
  z22:=sizeOf25
  v22:=zeroValue25
  t25:=underlying217
  a25:=isAgg217
  z25:=sizeOf217
  v25:=zeroValue217
def LX:Go.Shelf.Ren:=⟨fun |6=>66 |n=>n,fun |22=>39 |23=>58 |25=>149 |3=>3 |0=>0 |4=>4 |n=>n,fun |n=>n⟩
def Zp:Go.Proofs.SlLaysH0.n6 aj LX where
  mixed:=by rfl
  f6:=⟨ "slices.IndexFunc[[]lineside/api.Step,lineside/api.Step]",by decide,Tryz.func66.trans (ξ some (by rfl))⟩
  t0:=underlying0
  a0:=isAgg0
  z0:=sizeOf0
  v0:=zeroValue0
  t3:=bG
  a3:=isAgg3
  z3:=sizeOf3
  v3:=zeroValue3
  t4:=dL
  a4:=isAgg4
  z4:=sizeOf4
  v4:=zeroValue4
  t22:=underlying39
  a22:=isAgg39
  z22:=sizeOf39
  v22:=zeroValue39
  t25:=underlying149
  a25:=isAgg149
  z25:=sizeOf149
  v25:=zeroValue149
def LY:Go.Shelf.Ren:=⟨fun |8=>128 |6=>66 |n=>n,fun |22=>39 |23=>58 |25=>149 |4=>4 |3=>3 |0=>0 |n=>n,fun |n=>n⟩
def Zq:Go.Proofs.SlLaysH0.n8 aj LY where
  mixed:=by rfl
  f6:=⟨ "slices.IndexFunc[[]lineside/api.Step,lineside/api.Step]",by decide,Tryz.func66.trans (ξ some (by rfl))⟩
  f8:=⟨ "slices.ContainsFunc[[]lineside/api.Step,lineside/api.Step]",by decide,Tryz.func128.trans (ξ some (by rfl))⟩
  t0:=underlying0
  a0:=isAgg0
  z0:=sizeOf0
  v0:=zeroValue0
  t3:=bG
  a3:=isAgg3
  z3:=sizeOf3
  v3:=zeroValue3
  t4:=dL
  a4:=isAgg4
  z4:=sizeOf4
  v4:=zeroValue4
  t22:=underlying39
  a22:=isAgg39
  z22:=sizeOf39
  v22:=zeroValue39
  t25:=underlying149
  a25:=isAgg149
  z25:=sizeOf149
  v25:=zeroValue149
def LZ:Go.Shelf.Ren:=⟨fun |8=>129 |6=>87 |n=>n,fun |22=>24 |23=>114 |25=>172 |4=>4 |3=>3 |0=>0 |n=>n,fun |n=>n⟩
def Zr:Go.Proofs.SlLaysH0.n8 aj LZ where
  mixed:=by rfl
  f6:=⟨ "slices.IndexFunc[[]lineside/api.Bal,lineside/api.Bal]",by decide,Tryz.func87.trans (ξ some (by rfl))⟩
  f8:=⟨ "slices.ContainsFunc[[]lineside/api.Bal,lineside/api.Bal]",by decide,Tryz.func129.trans (ξ some (by rfl))⟩
  t0:=underlying0
  a0:=isAgg0
  z0:=sizeOf0
  v0:=zeroValue0
  t3:=bG
  a3:=isAgg3
  z3:=sizeOf3
  v3:=zeroValue3
  t4:=dL
  a4:=isAgg4
  z4:=sizeOf4
  v4:=zeroValue4
  t22:=underlying24
  a22:=isAgg24
  z22:=sizeOf24
  v22:=zeroValue24
  t25:=underlying172
  a25:=isAgg172
  z25:=sizeOf172
  v25:=zeroValue172
def O6:Go.Shelf.Ren:=⟨fun |8=>72 |6=>125 |n=>n,fun |22=>22 |23=>3 |25=>155 |4=>4 |3=>3 |0=>0 |n=>n,fun |n=>n⟩
def RJ:Go.Proofs.SlLaysH.n8 aj O6 where
  mixed:=by rfl
  f6:=⟨ "slices.IndexFunc[[]int,int]",by decide,Tryz.func125.trans (ξ some (by rfl))⟩
  f8:=⟨ "slices.ContainsFunc[[]int,int]",by decide,Tryz.func72.trans (ξ some (by rfl))⟩
  t0:=underlying0
  a0:=isAgg0
  z0:=sizeOf0
  v0:=zeroValue0
  t3:=bG
  a3:=isAgg3
  z3:=sizeOf3
  v3:=zeroValue3
  t4:=dL
  a4:=isAgg4
  z4:=sizeOf4
  v4:=zeroValue4
  t22:=underlying22
  a22:=isAgg22
  z22:=sizeOf22
  v22:=zeroValue22
  a23:=isAgg3
  z23:=sizeOf3
  t25:=underlying155
  a25:=isAgg155
  z25:=sizeOf155
  v25:=zeroValue155
instance:Inhabited (Rt × Option δ × Nat):=⟨(⟨0,[],0,0⟩,none,0)⟩
instance:Inhabited St:=⟨⟨0,false⟩⟩
instance:Inhabited Sc:=⟨⟨0,0⟩⟩
instance:Inhabited Sp:=⟨⟨0,0,0⟩⟩
def arD{α:Type}{E:arb α}{ts t:τ}{bytes:Nat}(z:Θ)(j:P.underlying ts=some (.slice t))(h:((P.info? t).map λi=>(i.zero,i.size,i.bytes))=some (some z,E.k,bytes))(H:z.cells.size=E.k):qo P E ts t bytes:=by refine⟨j,?_⟩;cases hi:P.info? t with|none=>grind|some i=>grind
def RN:qo aj gV 39 58 16:=arD (.agg gz) underlying39 (by kernel_rfl) rfl
def abI:qo aj kW 40 60 16:=arD (.agg gF) underlying40 (by kernel_rfl) rfl
def ND:qo aj iO 73 130 24:=arD (.agg gC) underlying73 (by kernel_rfl) rfl
def abJ:qo aj aq7 22 3 8:=arD (.int .i64 0) underlying22 (by kernel_rfl) rfl
def afA(g:Nat)(J: ∀args w,(ϕ g args).run aj w=.ok (.enter g args) w)(lb:Array Θ)(q:(Rt × Option δ × Nat)->Bool)(A:Option δ)(n c:Nat)(xs:List (Rt × Option δ × Nat))(w:ω)(N:PredBelow aj g lb (λx=> .agg (zT.enc x).toArray) q w)(j:fE zT w A xs)(hn:xs.length=n)(K:n<=9223372036854775807):Γ aj 131 #[.slice A n c,.func (.func g) #[] lb] w λe w'=>e=.returned (Lib.idxBy (λ_ y=>q y) xs default:Int)/\w w':=by
 cases n with
 |zero=>
  have:xs= []:=dh.1 hn;subst this;go_enter func131,ntmps131;go_wp2;go_loopg [5,8] 0 (λ_ _ V wr=>V=.int .i64 0/\w wr);case atStart=>exact⟨rfl,aH _ _⟩
  case round=>obtain⟨rfl,O⟩:=hrel;go_wp2;go_ret;exact⟨rfl,O⟩
 |succ n=>
  obtain⟨b,off,rfl,M,_⟩:=j.get (aI (show 0<xs.length by omega));have:=AnyQ.slices_IndexFunc Zo 4 isAgg97 sizeOf97 zT.enc zT.len q g lb J b off (n+1) c xs w N (by omega) K M ?_;.rw[<-hn,List.take_length]at this;rw[<-hn];exact this
  .intro U H i u hi;obtain⟨Y,Z,e,_,hc⟩:=j.get (aI H);simp only[aO,cZ]at e;obtain⟨rfl,rfl,-⟩:=e;rw[getElem!_pos xs U H]at hi;exact hc i u hi
def Yi(g:Nat)(J: ∀args w,(ϕ g args).run aj w=.ok (.enter g args) w)(lb:Array Θ)(q:St->Bool)(A:Option δ)(n c:Nat)(xs:List St)(w:ω)(N:PredBelow aj g lb (λx=> .agg (gV.enc x).toArray) q w)(j:fE gV w A xs)(hn:xs.length=n)(K:n<=9223372036854775807):Γ aj 66 #[.slice A n c,.func (.func g) #[] lb] w λe w'=>e=.returned (Lib.idxBy (λ_ y=>q y) xs default:Int)/\w w':=by
 cases n with
 |zero=>
  have:xs= []:=dh.1 hn;subst this;go_enter func66,ntmps66;go_wp2;go_loopg [5,8] 0 (λ_ _ V wr=>V=.int .i64 0/\w wr);case atStart=>exact⟨rfl,aH _ _⟩
  case round=>obtain⟨rfl,O⟩:=hrel;go_wp2;go_ret;exact⟨rfl,O⟩
 |succ n=>
  obtain⟨b,off,rfl,M,_⟩:=j.get (aI (show 0<xs.length by omega));have:=AnyQ.slices_IndexFunc Zp 2 isAgg58 sizeOf58 gV.enc gV.len q g lb J b off (n+1) c xs w N (by omega) K M ?_;.rw[<-hn,List.take_length]at this;rw[<-hn];exact this
  .intro U H i u hi;obtain⟨Y,Z,e,_,hc⟩:=j.get (aI H);simp only[aO,cZ]at e;obtain⟨rfl,rfl,-⟩:=e;rw[getElem!_pos xs U H]at hi;exact hc i u hi
def afB(g:Nat)(J: ∀args w,(ϕ g args).run aj w=.ok (.enter g args) w)(lb:Array Θ)(q:Bl->Bool)(A:Option δ)(n c:Nat)(xs:List Bl)(w:ω)(N:PredBelow aj g lb (λx=> .agg (qW.enc x).toArray) q w)(j:fE qW w A xs)(hn:xs.length=n)(K:n<=9223372036854775807):Γ aj 87 #[.slice A n c,.func (.func g) #[] lb] w λe w'=>e=.returned (Lib.idxBy (λ_ y=>q y) xs default:Int)/\w w':=by
 cases n with
 |zero=>
  have:xs= []:=dh.1 hn;subst this;go_enter func87,ntmps87;go_wp2;go_loopg [5,8] 0 (λ_ _ V wr=>V=.int .i64 0/\w wr);case atStart=>exact⟨rfl,aH _ _⟩
  case round=>obtain⟨rfl,O⟩:=hrel;go_wp2;go_ret;exact⟨rfl,O⟩
 |succ n=>
  obtain⟨b,off,rfl,M,_⟩:=j.get (aI (show 0<xs.length by omega));have:=AnyQ.slices_IndexFunc Nz 3 isAgg114 sizeOf114 qW.enc qW.len q g lb J b off (n+1) c xs w N (by omega) K M ?_;.rw[<-hn,List.take_length]at this;rw[<-hn];exact this
  .intro U H i u hi;obtain⟨Y,Z,e,_,hc⟩:=j.get (aI H);simp only[aO,cZ]at e;obtain⟨rfl,rfl,-⟩:=e;rw[getElem!_pos xs U H]at hi;exact hc i u hi
def Yj(g:Nat)(H: ∀args w,(ϕ g args).run aj w=.ok (.enter g args) w)(lb:Array Θ)(q:St->Bool)(A:Option δ)(n c:Nat)(xs:List St)(w:ω)(K:PredBelow aj g lb (λx=> .agg (gV.enc x).toArray) q w)(j:fE gV w A xs)(hn:xs.length=n)(M:n<=9223372036854775807):Γ aj 128 #[.slice A n c,.func (.func g) #[] lb] w λe w'=>e=.returned (.bool (xs.any q))/\w w':=by
 cases n with
 |zero=>have:xs= []:=dh.1 hn;subst this;go_enter func128,ntmps128;go_wp2_with(first|(go_at_call 66;(refine(Yi g H lb q A 0 c [] _ K j rfl (by omega)).mono ?_);rintro e Z⟨rfl,N⟩));go_ret;exact⟨by rfl,N⟩
 |succ n=>
  obtain⟨b,off,rfl,O,_⟩:=j.get (aI (show 0<xs.length by omega));have:=AnyQ.slices_ContainsFunc Zq 2 isAgg58 sizeOf58 gV.enc gV.len q g lb H b off (n+1) c xs w K (by omega) M O ?_;.rw[<-hn,List.take_length]at this;rw[<-hn];exact this
  .intro U J i u hi;obtain⟨V,Y,e,_,hc⟩:=j.get (aI J);simp only[aO,cZ]at e;obtain⟨rfl,rfl,-⟩:=e;rw[getElem!_pos xs U J]at hi;exact hc i u hi
def afC(g:Nat)(H: ∀args w,(ϕ g args).run aj w=.ok (.enter g args) w)(lb:Array Θ)(q:Bl->Bool)(A:Option δ)(n c:Nat)(xs:List Bl)(w:ω)(K:PredBelow aj g lb (λx=> .agg (qW.enc x).toArray) q w)(j:fE qW w A xs)(hn:xs.length=n)(M:n<=9223372036854775807):Γ aj 129 #[.slice A n c,.func (.func g) #[] lb] w λe w'=>e=.returned (.bool (xs.any q))/\w w':=by
 cases n with
 |zero=>have:xs= []:=dh.1 hn;subst this;go_enter func129,ntmps129;go_wp2_with(first|(go_at_call 87;(refine(afB g H lb q A 0 c [] _ K j rfl (by omega)).mono ?_);rintro e Z⟨rfl,N⟩));go_ret;exact⟨by rfl,N⟩
 |succ n=>
  obtain⟨b,off,rfl,O,_⟩:=j.get (aI (show 0<xs.length by omega));have:=AnyQ.slices_ContainsFunc Zr 3 isAgg114 sizeOf114 qW.enc qW.len q g lb H b off (n+1) c xs w K (by omega) M O ?_;.rw[<-hn,List.take_length]at this;rw[<-hn];exact this
  .intro U J i u hi;obtain⟨V,Y,e,_,hc⟩:=j.get (aI J);simp only[aO,cZ]at e;obtain⟨rfl,rfl,-⟩:=e;rw[getElem!_pos xs U J]at hi;exact hc i u hi
def abK(g:Nat)(K: ∀args w,(ϕ g args).run aj w=.ok (.enter g args) w)(lb:Array Θ)(q:Int->Bool)(A:Option δ)(n c:Nat)(xs:List Int)(w:ω)(O:PredAt aj g lb (Value.int .i64) q w)(J:fE aq7 w A xs)(hn:xs.length=n)(M:n<=9223372036854775807):Γ aj 72 #[.slice A n c,.func (.func g) #[] lb] w λe w'=>e=.returned (.bool (xs.any q))/\w w':=by
 cases n with
 |zero=>have:xs= []:=dh.1 hn;subst this;exact(AnyE.slices_ContainsFunc_empty RJ A c _ w).mono λe w' ⟨j,H⟩=>⟨j,H▸aH _ _⟩
 |succ n=>
  obtain⟨b,off,rfl,V,_⟩:=J.get (aI (show 0<xs.length by omega));have:=AnyE.slices_ContainsFunc RJ (Value.int .i64) q g lb K b off (n+1) c xs w O (by omega) M ?_;.rw[<-hn,List.take_length]at this;rw[<-hn];exact this.mono λe w' ⟨j,m,H⟩=>⟨j,H▸below_drewN' (aH _ w) m⟩
  .intro Y N;obtain⟨U,Z,e,_,hc⟩:=J.int N;simp only[aO,cZ]at e;obtain⟨rfl,rfl,-⟩:=e;exact hc
def VW(A:Option δ)(n c:Nat)(xs:List St)(w:ω)(K:fE gV w A xs)(hn:xs.length=n)(hl:n<=65536):Γ aj 54 #[.slice A n c] w λe w'=> ∃J j,e=.returned (.slice J n j)/\aq1 gV 58 w' w J j xs/\w w':=by
 have ac: ∀(W:ω) (a:Option δ) (n c H j:Nat),(γ .eql 39 (.slice a n c) (.slice none H j)).run aj W=.ok a.isNone W:=λW a n c H j=>Lib.run_eql_slice_nil W _ _ a n c H j underlying39;cases A with
 |none=>
  have V:xs= []:=by cases xs with|nil=>rfl|cons x xs=>obtain⟨b,off,e,_⟩:=K.get (i:=0) rfl;cases e
  subst V;go_enter func54,ntmps54;go_wp2;go_ret;exact⟨none,0,by simp;omega,aq1.nil _ _,aH _ _⟩
 |some U=>have Y:aq1 gV 58 (w.alloc (.cells #[] 58)) w w 0 ([]:List St):=⟨by rfl,.inr ⟨w,0,#[],rfl,aW _,fK.new _ _ _,aW _,aV _,rfl,rfl⟩⟩;have M:w (w.alloc (.cells #[] 58)):=gY.alloc ig _;have Z:=ah hn;go_enter func54,ntmps54;go_wp2_with(at_builtin;refine gW RN rfl _ _ rfl w w 0 [] 0 rfl rfl Y (some U) c xs n rfl Z.out (K.alloc _) (by omega) (by decide) (by simp) ?_;intro A2 c2 W2 N O aa);go_ret;simp only[aZ]at N;refine⟨A2,c2,by simp,N,M.grown O M.size ?_⟩;simp
def abL(A:Option δ)(n c:Nat)(xs:List Sc)(w:ω)(K:fE kW w A xs)(hn:xs.length=n)(hl:n<=65536):Γ aj 55 #[.slice A n c] w λe w'=> ∃J j,e=.returned (.slice J n j)/\aq1 kW 60 w' w J j xs/\w w':=by
 have ac: ∀(W:ω) (a:Option δ) (n c H j:Nat),(γ .eql 40 (.slice a n c) (.slice none H j)).run aj W=.ok a.isNone W:=λW a n c H j=>Lib.run_eql_slice_nil W _ _ a n c H j underlying40;cases A with
 |none=>
  have V:xs= []:=by cases xs with|nil=>rfl|cons x xs=>obtain⟨b,off,e,_⟩:=K.get (i:=0) rfl;cases e
  subst V;go_enter func55,ntmps55;go_wp2;go_ret;exact⟨none,0,by simp;omega,aq1.nil _ _,aH _ _⟩
 |some U=>have Y:aq1 kW 60 (w.alloc (.cells #[] 60)) w w 0 ([]:List Sc):=⟨by rfl,.inr ⟨w,0,#[],rfl,aW _,fK.new _ _ _,aW _,aV _,rfl,rfl⟩⟩;have M:w (w.alloc (.cells #[] 60)):=gY.alloc ig _;have Z:=ah hn;go_enter func55,ntmps55;go_wp2_with(at_builtin;refine gW abI rfl _ _ rfl w w 0 [] 0 rfl rfl Y (some U) c xs n rfl Z.out (K.alloc _) (by omega) (by decide) (by simp) ?_;intro A2 c2 W2 N O aa);go_ret;simp only[aZ]at N;refine⟨A2,c2,by simp,N,M.grown O M.size ?_⟩;simp
def alH(A:Option δ)(n c:Nat)(xs:List Int)(w:ω)(K:fE aq7 w A xs)(hn:xs.length=n)(hl:n<=65536):Γ aj 56 #[.slice A n c] w λe w'=> ∃J j,e=.returned (.slice J n j)/\aq1 aq7 3 w' w J j xs/\w w':=by
 have ac: ∀(W:ω) (a:Option δ) (n c H j:Nat),(γ .eql 22 (.slice a n c) (.slice none H j)).run aj W=.ok a.isNone W:=λW a n c H j=>Lib.run_eql_slice_nil W _ _ a n c H j underlying22;cases A with
 |none=>
  have V:xs= []:=by cases xs with|nil=>rfl|cons x xs=>obtain⟨b,off,e,_⟩:=K.get (i:=0) rfl;cases e
  subst V;go_enter func56,ntmps56;go_wp2;go_ret;exact⟨none,0,by simp;omega,aq1.nil _ _,aH _ _⟩
 |some U=>have Y:aq1 aq7 3 (w.alloc (.cells #[] 3)) w w 0 ([]:List Int):=⟨by rfl,.inr ⟨w,0,#[],rfl,aW _,fK.new _ _ _,aW _,aV _,rfl,rfl⟩⟩;have M:w (w.alloc (.cells #[] 3)):=gY.alloc ig _;have Z:=ah hn;go_enter func56,ntmps56;go_wp2_with(at_builtin;refine gW abJ rfl _ _ rfl w w 0 [] 0 rfl rfl Y (some U) c xs n rfl Z.out (K.alloc _) (by omega) (by decide) (by simp) ?_;intro A2 c2 W2 N O aa);go_ret;simp only[aZ]at N;refine⟨A2,c2,by simp,N,M.grown O M.size ?_⟩;simp
def aiV(A:Option δ)(n c:Nat)(xs:List Sp)(w:ω)(K:fE iO w A xs)(hn:xs.length=n)(hl:n<=65536):Γ aj 94 #[.slice A n c] w λe w'=> ∃J j,e=.returned (.slice J n j)/\aq1 iO 130 w' w J j xs/\w w':=by
 have ac: ∀(W:ω) (a:Option δ) (n c H j:Nat),(γ .eql 73 (.slice a n c) (.slice none H j)).run aj W=.ok a.isNone W:=λW a n c H j=>Lib.run_eql_slice_nil W _ _ a n c H j underlying73;cases A with
 |none=>
  have V:xs= []:=by cases xs with|nil=>rfl|cons x xs=>obtain⟨b,off,e,_⟩:=K.get (i:=0) rfl;cases e
  subst V;go_enter func94,ntmps94;go_wp2;go_ret;exact⟨none,0,by simp;omega,aq1.nil _ _,aH _ _⟩
 |some U=>have Y:aq1 iO 130 (w.alloc (.cells #[] 130)) w w 0 ([]:List Sp):=⟨by rfl,.inr ⟨w,0,#[],rfl,aW _,fK.new _ _ _,aW _,aV _,rfl,rfl⟩⟩;have M:w (w.alloc (.cells #[] 130)):=gY.alloc ig _;have Z:=ah hn;go_enter func94,ntmps94;go_wp2_with(at_builtin;refine gW ND rfl _ _ rfl w w 0 [] 0 rfl rfl Y (some U) c xs n rfl Z.out (K.alloc _) (by omega) (by decide) (by simp) ?_;intro A2 c2 W2 N O aa);go_ret;simp only[aZ]at N;refine⟨A2,c2,by simp,N,M.grown O M.size ?_⟩;simp
section
def zX:Op->Option (List κ)
 | .move x | .assign x | .nilCheck x | .box _ x | .load _ x | .unOp _ _ x | .convert _ _ x | .fieldAddr _ x _ | .field _ x _ | .extract x _=>some [x]
 | .pick c a b=>some [c,a,b]
 | .alloc _=>some []
 | .build _ ps=>some (ps.toList.map (·.2))
 | .store _ x y | .binOp _ _ x y _ | .indexAddr _ x y | .index _ x y | .lookup _ x y _=>some [x,y]
 | .slice _ x lo hi mx=>some (x::(lo.toList++hi.toList++mx.toList))
 | .call c=>match c.callee with
   | .value f=>some (f::c.args.toList)
   | .builtin _=>some c.args.toList
   | .invoke r _=>some (r::c.args.toList)
 |_=>none
def abM{α j:Type}{f g:α->j}{xs:Array α}(h: ∀x∈xs.toList,f x=g x):xs.map f=xs.map g:=by apply Array.ext (by simp);intro i H J;simp only[Array.getElem_map];exact h _ (by simp)
def VX{α j:Type}{f g:α->j}{o:Option α}(h: ∀x∈o.toList,f x=g x):o.map f=o.map g:=by cases o with|none=>rfl|some x=>exact ξ some (h x (by simp))
def alI{ρ H:κ->Θ}{o:ο}{l:List κ}(j:zX o.op=some l)(h: ∀x∈l,ρ x=H x):execOp ρ o=execOp H o:=by
 obtain⟨dst,N,ty,pos,after,O⟩:=o;cases N with
 |build t ps=>
  simp only[zX,aO]at j;subst j;have e:(ps.map λ(p:Nat × κ)=>(p.1,ρ p.2))=ps.map λp=>(p.1,H p.2):=abM λp M=>by rw[h p.2 (List.mem_map_of_mem M)]
  show(do pure (.value (<-Instr.build t (ps.map λ(p:Nat × κ)=>(p.1,ρ p.2)))):Sem Next)=_;rw[e];rfl
 |slice t x lo hi K=>simp only[zX,aO]at j;subst j;have e1:=h x (by simp);have e2:lo.map ρ=lo.map H:=VX λy J=>h y (by simp_all);have e3:hi.map ρ=hi.map H:=VX λy J=>h y (by simp_all);have e4:K.map ρ=K.map H:=VX λy J=>h y (by simp_all);simp only[execOp,e1,e2,e3,e4]
 |call c=>
  obtain⟨cl,args,U⟩:=c;have e:args.map ρ=args.map H:=abM λy J=>h y (by cases cl <;> simp_all[zX] <;> (subst j;simp_all));cases cl <;> simp only[execOp,resolve,e];.rw[h _ (by simp_all[zX];subst j;simp)]
  .rw[h _ (by simp_all[zX];subst j;simp)]
 |_=>first|(simp[zX]at j;done)|(simp only[zX,aO]at j;subst j;simp_all[execOp])
def sqW (o:ο) (j:Nat):Bool:=o.after.any fun e=>e.on==j&&aC .any e
def sqR (ops:Array ο) (o:ο):κ->Bool
 | .tmp t=>(eY ops.size).all fun j=>match ops[j]? with
   |some p=>p.dst != some t || sqW o j
   |none=>true
 |_=>true
def alJ (ops:Array ο):Bool:=(eY ops.size).all fun i=>match ops[i]? with
 |none=>false
 | some o=> (match zX o.op with
   |none=>false
   |some l=>l.all (sqR ops o))&&match o.guard with
   |none=>true
   |some (j,_)=>sqW o j
def yI(u:Nat->Θ): ∀(j:List (Option Tmp)) (k:Nat) (a:Act),(aq9 u j k a).tmps.size=a.tmps.size
 | [],_,_=>rfl
 |d::j,k,a=>by show(aq9 u j (k+1) (a.put d (u k))).tmps.size=_;rw[yI u j];cases d <;> simp[aP]
def abN(a:Act)(d:Option Tmp)(v:Θ)(t:Nat)(h:d≠some t):(a.put d v).tmps[t]? =a.tmps[t]? :=by cases d with|none=>rfl|some x=>simp only[aP];exact dR (λe=>h (by rw[e]))
def O7(u:Nat->Θ)(t:Nat): ∀(j:List (Option Tmp)) (k:Nat) (a:Act),some t∉j->(aq9 u j k a).tmps[t]? =a.tmps[t]?
 | [],_,_,_=>rfl
 |d::j,k,a,h=>by show(aq9 u j (k+1) (a.put d (u k))).tmps[t]? =_;rw[O7 u t j _ _ (λhm=>h (List.mem_cons_of_mem _ hm))];exact abN _ _ _ _ (λe=>h (by rw[e];exact List.mem_cons_self))
def abO{d:Option Tmp}{j:List (Option Tmp)}(h:arl (d::j)=true):arl j=true/\ ∀t,d=some t->some t∉j:=by cases d with|none=>exact⟨h,λt e=>by cases e⟩|some x=>simp only[arl,bM,Bool.not_eq_true',List.contains_eq_mem]at h;exact⟨h.2,λt e=>by injection e with e;subst e;simpa using h.1⟩
def RP(u:Nat->Θ)(t:Nat): ∀(j:List (Option Tmp)) (k i:Nat) (a:Act),arl j=true->j[i]? =some (some t)->t<a.tmps.size->(aq9 u j k a).tmps[t]? =some (u (k+i))
 | [],_,_,_,_,h,_=>by simp at h
 |d::j,k,0,a,ha,h,ht=>by simp only[eP,aO]at h;subst h;show(aq9 u j (k+1) (a.put (some t) (u k))).tmps[t]? =_;rw[O7 u t j _ _ ((abO ha).2 t rfl)];simp[aP,ht]
 |d::j,k,i+1,a,ha,h,ht=>by show(aq9 u j (k+1) (a.put d (u k))).tmps[t]? =_;rw[RP u t j (k+1) i _ (abO ha).1 (by simpa using h) (by cases d <;> simpa[aP] using ht)];congr 2;omega
def O8(u J:Nat->Θ): ∀(j:List (Option Tmp)) (k:Nat) (a:Act),(∀H,k<=H->H<k+j.length->u H=J H)->aq9 u j k a=aq9 J j k a
 | [],_,_,_=>rfl
 |d::j,k,a,h=>by show aq9 u j (k+1) (a.put d (u k))=aq9 J j (k+1) (a.put d (J k));rw[h k ig (by simp),O8 u J j (k+1) _ (λH M K=>h H (by omega) (by simp at K |-;omega))]
def Yk(u:Nat->Θ)(d:Option Tmp): ∀(j:List (Option Tmp)) (k:Nat) (a:Act),aq9 u (j++ [d]) k a=(aq9 u j k a).put d (u (k+j.length))
 | [],_,_=>rfl
 |e::j,k,a=>by show aq9 u (j++ [d]) (k+1) (a.put e (u k))=(aq9 u j (k+1) (a.put e (u k))).put d _;rw[Yk u d j];congr 2;simp;omega
def O9: ∀(j:List (Option Tmp)) (n:Nat),arl j=true->arl (j.take n)=true
 |_,0,_=>rfl
 | [],_+1,_=>rfl
 |none::j,n+1,h=>O9 j n h
 |some d::j,n+1,h=>by simp only[arl,bM,Bool.not_eq_true',List.contains_eq_mem,List.take_succ_cons]at h |-;exact⟨by simpa using λhm=>(by simpa using h.1:some d∉j) (List.mem_of_mem_take hm),O9 j n h.2⟩
section
variable {P:χ} {ops:Array ο} {w0:ω} {Q:Exit->Act->ω->Prop}
def gX (P:χ) (ops:Array ο) (w0:ω) (Q:Exit->Act->ω->Prop):List ο->Act->Prop
 | [],a=> ∀w,w0 w->Q .normal a w
 |o::rest,a=> ∃c,(if aF o (ψ ops a.tmps)=true then ∀w,w0 w-> ∀(K:Act->ω->Prop) (Q':Exit->Act->ω->Prop),(∀w',w w'->K (a.put o.dst c) w')->o.wp P a w K Q' else c=υ)/\gX P ops w0 Q rest (a.put o.dst c)
def gX.want{o:ο}{rest:List ο}{a:Act}{c:Θ}(K:aF o (ψ ops a.tmps)=true)(h: ∀w,w0 w-> ∀(j:Act->ω->Prop) (H:Exit->Act->ω->Prop),(∀w',w w'->j (a.put o.dst c) w')->o.wp P a w j H){a':Act}(J:a.put o.dst c=a')(r:gX P ops w0 Q rest a'):gX P ops w0 Q (o::rest) a:=⟨c,by rw[Υ K];exact h,by rw[J];exact r⟩
def gX.nil{a:Act}(h: ∀w,w0 w->Q .normal a w):gX P ops w0 Q [] a:=h
def gX.skip{o:ο}{rest:List ο}{a:Act}(H:aF o (ψ ops a.tmps)=false){a':Act}(j:a.put o.dst υ=a')(r:gX P ops w0 Q rest a'):gX P ops w0 Q (o::rest) a:=⟨υ,by rw[Ξ (by rw[H];exact Bool.false_ne_true)],by rw[j];exact r⟩
def aiW{a b:Act}(K:b.tmps.size=a.tmps.size)(d:Option Tmp){v c:Θ}(h:a.put d v=a.put d c):b.put d v=b.put d c:=by
 cases d with
 |none=>rfl
 |some x=>
  simp only[aP,Act.mk.injEq,and_true]at h |-;by_cases J:x<a.tmps.size;.have j:=ξ (λt=>t[x]?) h;simp only[Array.getElem?_setIfInBounds_self_of_lt J,aO]at j;rw[j]
  ·(have H:b.tmps.size<=x:=by rw[K];exact Nat.le_of_not_lt J);rw[Array.setIfInBounds_eq_of_size_le H,Array.setIfInBounds_eq_of_size_le H]
def alK{o:ο}{a b:Act}{w:ω}{c:Θ}{J:Act->ω->Prop}(U:b.tmps.size=a.tmps.size)(N: ∀v w',w w'->v=c->J (b.put o.dst v) w'): ∀ {r:Result Next},o.upon P a (λa' w'=>w w'/\a'=a.put o.dst c) (λ_ _ _=>False) r->o.upon P b J Q r:=by
 have H: ∀v w',w w'/\a.put o.dst v=a.put o.dst c->J (b.put o.dst v) w':=λv w' h=>by rw[aiW U _ h.2];exact N c w' h.1 rfl
 intro r h;cases r with
 |ok n w'=>
  cases n with
  |value v=>exact H v w' h
  |skip=>exact H υ w' h
  |defer d=>have M:=ξ (λx=>x.defers.length) h.2;cases O:o.dst <;> simp[aP,O]at M
  |enter f args=>refine Calls.mono h λe K j=>?_;cases e with|returned v=>exact H v K j|panicked V=>exact j.elim|outgrown=>obtain⟨_,_,h⟩:=j;exact h.elim
  |row row args=>exact Rows.mono h λv K j=>H v K j
  |_=>exact h.elim
 |halt x w'=>cases x <;> exact h.elim
def alL{o:ο}{j:Nat}(h:sqW o j=true): ∃e∈o.after.toList,aC .any e=true/\e.on=j:=by unfold sqW at h;simp only[Array.any_eq_true,bM,beq_iff_eq]at h;obtain⟨i,hi,H,J⟩:=h;exact⟨o.after[i],by simp,J,H⟩
def alM{l:List ο}{a0:Act}{u K:Nat->Θ}{i:Nat}{o:ο}(hap:arl (l.map (·.dst))=true)(Y: ∀j,sqW o j=true->j<i/\u j=K j)(t:Nat)(V:sqR l.toArray o (.tmp t)=true):(aq9 u (l.map (·.dst)) 0 a0).tmps[t]? =(aq9 K ((l.map (·.dst)).take i) 0 a0).tmps[t]? :=by
 by_cases N:t<a0.tmps.size
 .by_cases hm:some t∈l.map (·.dst);.obtain⟨j,H⟩:=List.mem_iff_getElem?.1 hm;(have M:j<l.length:=by have:=(aX.1 H).1;simpa using this);(have Z:sqW o j=true:=by have J:=List.all_eq_true.1 V j (by simpa using M);simp only[List.getElem?_toArray,aI M]at J;(have U:(l[j]).dst=some t:=by rw[bW,aI M]at H;simpa using H);simpa[U] using J);obtain⟨O,J⟩:=Y j Z;rw[RP u t _ 0 j a0 hap H N,RP K t _ 0 j a0 (O9 _ _ hap) (by rw[dG O];exact H) N,aJ,J]
  .rw[O7 u t _ _ _ hm,O7 K t _ _ _ (λh=>hm (List.mem_of_mem_take h))]
 .rw[dI (by rw[yI];omega),dI (by rw[yI];omega)]
def Yl{l:List ο}{a0:Act}(hap:arl (l.map (·.dst))=true)(hB:uO l.toArray=true)(hr:alJ l.toArray=true): ∀(rest:List ο) (i:Nat) (H:Nat->Θ) (M:List (Θ->ω->Prop)),l.drop i=rest->(∀j,j<i->M[j]? =some (Is (H j)))->M.length=i->i<=l.length->gX P l.toArray w0 Q rest (aq9 H ((l.map (·.dst)).take i) 0 a0)->Lex P l.toArray (λu=>aq9 u (l.map (·.dst)) 0 a0) w0 Q rest i M
 | [],i,H,M,hd,Ez,hl,hi,h=>by
  intro u w Y hw;have hn:l.length=i:=by have:=ξ List.length hd;simp at this;omega
  have:=h w Y;rw[aY (by simp[hn]),<-O8 u H _ _ _ (λj _ J=>by(have am:j<i:=by simp at J;omega);exact hw j _ (Ez j am))]at this;exact this
 |o::rest,i,H,M,hd,Ez,hl,hi,h=>by
  obtain⟨c,N,h2⟩:=h;have ag:i<l.length:=by have:=ξ List.length hd;simp at this;omega
  have ho:l[i]? =some o:=by have:=ξ (λx=>x[0]?) hd;simpa[List.getElem?_drop] using this
  have K:(match zX o.op with |none=>false |some m=>m.all (sqR l.toArray o))=true/\(match o.guard with |none=>true |some (j,_)=>sqW o j)=true:=by have:=List.all_eq_true.1 hr i (by simpa using ag);simp only[List.getElem?_toArray,ho,bM]at this;exact this
  refine⟨Is c,⟨Jo c,λu w Y hw=>?_⟩,?_⟩;·(have hu: ∀j,sqW o j=true->j<i/\u j=H j:=λj J=>by obtain⟨e,he,ad,rfl⟩:=alL J;have ak:=Du hB (i:=i) (o:=o) (by simpa using ho) e (by simpa using he) ad;exact⟨ak,hw e he ad _ (Ez _ ak)⟩);(have au: ∀j,sqW o j=true->ψ l.toArray (aq9 u (l.map (·.dst)) 0 a0).tmps j=ψ l.toArray (aq9 H ((l.map (·.dst)).take i) 0 a0).tmps j:=λj J=>by obtain⟨O,an⟩:=hu j J;unfold ψ;cases ae:(l.toArray[j]?).bind (·.dst) with|none=>rfl|some t=>simp only[Option.bind_some];(have af:(l.map (·.dst))[j]? =some (some t):=by(have ai:j<l.length:=by omega);simp only[List.getElem?_toArray,aI ai,Option.bind_some]at ae;simp[bW,aI ai,ae]);by_cases U:t<a0.tmps.size;(.rw[RP u t _ 0 j a0 hap af U,RP H t _ 0 j a0 (O9 _ _ hap) (by rw[dG O];exact af) U,aJ,an]);.rw[dI (by rw[yI];exact Nat.le_of_not_lt U),dI (by rw[yI];exact Nat.le_of_not_lt U)]);(have ar:aF o (ψ l.toArray (aq9 u (l.map (·.dst)) 0 a0).tmps)=aF o (ψ l.toArray (aq9 H ((l.map (·.dst)).take i) 0 a0).tmps):=by unfold aF;cases hg:o.guard with|none=>rfl|some g=>obtain⟨j,wn⟩:=g;have:=K.2;rw[hg]at this;simp only[au j this]);unfold qR jP;rw[ar];split;(.rename_i ac;rw[Υ ac]at N;intro av hK;have V:=N w Y (λa' w'=>w w'/\a'=(aq9 H ((l.map (·.dst)).take i) 0 a0).put o.dst c) (λ_ _ _=>False) (λw' Z=>⟨Z,rfl⟩);cases aa:zX o.op with|none=>rw[aa]at K;exact absurd K.1 (by simp)|some m=>rw[aa]at K;(have al: ∀x∈m,(aq9 u (l.map (·.dst)) 0 a0).eval x=(aq9 H ((l.map (·.dst)).take i) 0 a0).eval x:=λx V=>by cases x with|tmp t=>have:=alM (a0:=a0) hap hu t (List.all_eq_true.1 K.1 _ V);simp only[Act.eval,Array.getD_eq_getD_getElem?,this]|_=>rfl);unfold Oper.wp at V |-;rw[alI aa al];exact alK (by rw[yI,yI]) (λv w' Z hv=>hK v w' Z hv) V);.rename_i ac;rw[Ξ ac]at N;exact N.symm
  ·(have aq:aq9 (upd H i c) ((l.map (·.dst)).take (i+1)) 0 a0=(aq9 H ((l.map (·.dst)).take i) 0 a0).put o.dst c:=by rw[List.take_add_one,show((l.map (·.dst))[i]?).toList= [o.dst] by simp[bW,ho],Yk];(have ap:((l.map (·.dst)).take i).length=i:=by simp;omega);rw[ap,aJ,show upd H i c i=c by simp[upd]];congr 1;exact O8 _ _ _ _ _ λj _ J=>by simp[upd];omega);refine Yl hap hB hr rest (i+1) (upd H i c) _ (by rw[<-List.tail_drop,hd];rfl) (λj J=>?_) (by simp[hl]) ag (by rw[aq];exact h2);by_cases O:j=i;(.subst O;rw[List.getElem?_append_right (by omega),hl];simp[upd]);.rw[dP (by omega),Ez j (by omega)];simp[upd,O]
def ah8 (P:χ) (l:List ο):Bool:=decide (P.follows .mixedOrders=true)&&(arl (l.map (·.dst))&&(uO l.toArray&&alJ l.toArray))
def ara{id:Nat}{l:List ο}{a:Act}(hc:ah8 P l=true)(h:gX P l.toArray w0 Q l a):(Code.region id l.toArray true).wp P Q a w0:=by simp only[ah8,bM,decide_eq_true_eq]at hc;exact iM (λu=>aq9 u (l.map (·.dst)) 0 a) (λ_=>rfl) hc.1 hc.2.2.1 hc.2.1 (Yl hc.2.1 hc.2.2.1 hc.2.2.2 l 0 (λ_=>υ) [] rfl (λH j=>by omega) rfl (aV _) h)
end
end
end Go.Proofs.YthnmgjngniciaaaGreatDoor
