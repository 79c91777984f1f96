/- Parts. -/
import Derived.WalkKit
import Derived.WalkSpells
import Derived.WalkLawsBesides
import Derived.Laws.StructEq
import Derived.Below
import Derived.Laws.OwnMore
import Derived.Deep.Draws
import Derived.Laws.Rows
import Derived.ChangeKeysEq
import Derived.Deep.AppendLies
import Derived.Maps.AppendAt
import Derived.RegionTactic
import Derived.OwnWalk
import Derived.Deep.QuietTactic
import Derived.BigQuiet
import Derived.Laws.Tables
import Derived.Deep.MidRow
set_option linter.all false
set_option maxHeartbeats 16000000
set_option maxRecDepth 8000
open Array renaming getElem?_eq_getElem→cO,getElem?_eq_none→dI,getElem?_eq_some_iff→dM,getElem?_setIfInBounds_ne→dR
open BitVec renaming ofInt→aQ,ofNat→bT
open Bool renaming and_eq_true→bM,false_eq_true→bU
open List renaming eq_nil_of_length_eq_zero→dw,getD_eq_getElem?_getD→bH,getElem?_append_left→dP,getElem?_cons_succ→fB,getElem?_cons_zero→eP,getElem?_eq_getElem→aI,getElem?_eq_none→dQ,getElem?_eq_some_iff→aX,getElem?_map→bW,getElem?_take_of_lt→dG,length_cons→bK,length_map→eU,map_append→eX,mem_append→dK,mem_cons→bJ,mem_of_getElem?→bP,not_mem_nil→dH,range→eY
open Nat renaming add_zero→bI,le_refl→aW,le_trans→aG,lt_of_lt_of_le→aU,lt_or_ge→eu,mod_eq_of_lt→dF,zero_add→aJ,zero_le→aV
open Option renaming getD_some→eG,map_some→eF
open Option.some renaming injEq→aO
namespace Go.Proofs.YthnmgjngniciaaaGreatDoor
open Go.RowKit
open Act renaming put→aP
open Below renaming heap_setCell→aN,refl→aH
open Region renaming binds→aC,wanted→aF
open Result renaming andThen_ok→dO
open Value renaming cells→aS,oneCell'→aK
open Value.slice renaming injEq→dV
open World renaming setCell→dD
variable{n:Nat}{w:World}
structure fY0
def fY:fY0:=⟨⟩
instance:Coe fY0 (Array Value):=⟨fun _=>#[.int .i64 0,.int .i64 0,.int .i64 0,.int .i64 0,.int .i64 0,.int .i64 0,.int .i64 0,.int .i64 0,.int .i64 0,.int .i64 0,.int .i64 0,.int .i64 0,.int .i64 0,.int .u32 0,.int .u32 0,.int .u32 0,.int .u32 0,.int .i64 0,.int .u32 0,.int .u32 0,.int .u32 0,.int .u32 0,.int .u32 0,.int .u32 0,.bool false,.int .u32 0,.int .u32 0,.int .u32 0,.int .i64 0,.int .i64 0,.int .i64 0,.bool false,.int .i64 0,.bool false,.int .i64 0,.int .i64 0,.bool false,.int .i64 0,.int .i64 0,.bool false,.int .i64 0,.bool false,.slice none 0 0,.slice none 0 0,.int .i64 0,.int .i64 0,.bool false,.slice none 0 0]⟩
structure gd0
def gd:gd0:=⟨⟩
instance:Coe gd0 (Array Value):=⟨fun _=>#[.int .i64 0,.int .i64 0,.int .u32 0,.int .u32 0,.int .u32 0,.int .u32 0,.int .i64 0,.int .u32 0,.int .u32 0,.int .u32 0,.int .u32 0,.int .u32 0,.int .u32 0,.bool false,.int .u32 0,.int .u32 0]⟩
structure gi0
def gi:gi0:=⟨⟩
instance:Coe gi0 (Array Value):=⟨fun _=>#[.int .i64 0,.int .i64 0,.int .i64 0,.int .u32 0,.int .u32 0,.slice none 0 0,.int .u64 0]⟩
structure gj0
def gj:gj0:=⟨⟩
instance:Coe gj0 (Array Value):=⟨fun _=>#[.int .i64 0,.bool false,.slice none 0 0,.slice none 0 0,.int .i64 0]⟩
structure gk0
def gk:gk0:=⟨⟩
instance:Coe gk0 (Array Value):=⟨fun _=>#[.int .i64 0,.int .i64 0,.int .i64 0,.int .i64 0,.slice none 0 0,.slice none 0 0]⟩
structure gv0
def gv:gv0:=⟨⟩
instance:Coe gv0 (Array Value):=⟨fun _=>#[.int .i64 0,.int .i64 0,.int .i64 0,.bool false]⟩
structure gw0
def gw:gw0:=⟨⟩
instance:Coe gw0 (Array Value):=⟨fun _=>#[.int .i64 1,.int .i64 5,.int .i64 1]⟩
structure gz0
def gz:gz0:=⟨⟩
instance:Coe gz0 (Array Value):=⟨fun _=>#[.int .i64 0,.bool false]⟩
structure gA0
def gA:gA0:=⟨⟩
instance:Coe gA0 (Array Value):=⟨fun _=>#[.int .i64 0,.int .i64 0,.bool false]⟩
structure gC0
def gC:gC0:=⟨⟩
instance:Coe gC0 (Array Value):=⟨fun _=>#[.int .i64 0,.int .i64 0,.int .i64 0]⟩
structure gD0
def gD:gD0:=⟨⟩
instance:Coe gD0 (Array Value):=⟨fun _=>#[.int .i64 0,.slice none 0 0,.int .i64 0,.int .i64 0]⟩
structure gE0
def gE:gE0:=⟨⟩
instance:Coe gE0 (Array Value):=⟨fun _=>#[.int .i64 7,.int .i64 0,.int .i64 10]⟩
structure gF0
def gF:gF0:=⟨⟩
instance:Coe gF0 (Array Value):=⟨fun _=>#[.int .i64 0,.int .i64 0]⟩
structure gH0
def gH:gH0:=⟨⟩
instance:Coe gH0 (Array Value):=⟨fun _=>#[.int .i64 0,.slice none 0 0]⟩
instance:Coe World Nat:=⟨fun w=>w.heap.size⟩
instance:CoeFun World (fun _=>World→Prop):=⟨fun w=>Below w.heap.size w⟩
structure Z0
structure N0
def zI:Z0:=⟨⟩
def nS:N0:=⟨⟩
instance:Coe Int Value:=⟨.int .i64⟩
instance:Coe Nat Value:=⟨fun n=>.int .i64 (n:Int)⟩
instance:Coe Z0 Value:=⟨fun _=>.int .i64 0⟩
instance:Coe N0 Value:=⟨fun _=>.slice none 0 0⟩
instance:Coe Bool Value:=⟨.bool⟩
instance:Coe (Array Value) Value:=⟨.agg⟩
instance:Coe Nat (Option Addr):=⟨fun b=>some ⟨b,0,none⟩⟩
theorem ig:n<=n:=aW n
theorem gY:Below n w w:=aH n w
theorem jm{o:Obj}:w (w.alloc o):=(aH _ _).alloc (aW _) _
theorem gQ:(∀{α:Type}(l:List α),[]++l=l)/\ ∀{α:Type}(a:α)(l m:List α),a::l++m=a::(l++m):=⟨λ_=>rfl,λ_ _ _=>rfl⟩
theorem fD{α:Sort _}(a:α):∃b,b=a:=⟨a,rfl⟩
section
def q32 (x:BitVec 32):Value:=.int .u32 (x.toNat:Int)
theorem jM(a:BitVec 32):aQ 32 (a.toNat:Int)=a:=by simp
theorem mW(a:BitVec 32):IntKind.u32.wrap (a.toNat:Int)=(a.toNat:Int):=by have:=a.isLt;rw[IntKind.wrap_u32];omega
theorem OT(a b:BitVec 32):((a.toNat:Int)==(b.toNat:Int))=(a==b):=by rw[Bool.eq_iff_iff];simp;exact⟨λh=>BitVec.eq_of_toNat_eq (by omega),λh=>by rw[h]⟩
theorem abg(a b:BitVec 32):((a.toNat:Int) != (b.toNat:Int))=(a != b):=by simp only[bne,OT]
theorem Ze(z:Int)(d:0<=z)(j:z<4294967296):Value.int .u32 z=q32 (aQ 32 z):=by unfold q32;rw[BitVec.toNat_ofInt];congr 1;omega
section
variable (t:TypeId) (a b:BitVec 32)
@[go_sem] theorem afk:binOp .add t (q32 a) (q32 b)=pure (q32 (a+b)):=by
 have e:IntKind.u32.wrap ((a.toNat:Int)+b.toNat)=((a+b).toNat:Int):=by rw[IntKind.wrap_u32,BitVec.toNat_add];omega
 simp[q32,binOp,Op.intArith,e]
@[go_sem] theorem anL:binOp .sub t (q32 a) (q32 b)=pure (q32 (a-b)):=by
 have e:IntKind.u32.wrap ((a.toNat:Int)-b.toNat)=((a-b).toNat:Int):=by have:=a.isLt;have:=b.isLt;rw[IntKind.wrap_u32,BitVec.toNat_sub];omega
 simp[q32,binOp,Op.intArith,e]
@[go_sem] theorem anM:binOp .xor t (q32 a) (q32 b)=pure (q32 (a ^^^ b)):=by
 have e:IntKind.u32.wrap ((aQ 32 (a.toNat:Int) ^^^ aQ 32 (b.toNat:Int)).toNat:Int)=((a ^^^ b).toNat:Int):=by rw[jM,jM,mW]
 show Op.intBits .xor .u32 _ _=_;exact congrArg (fun n=>(pure (Value.int .u32 n):Sem Value)) e
@[go_sem] theorem ahR (n:Int):binOp .xor t (q32 a) (.int .u32 n)=pure (q32 (a ^^^ aQ 32 n)):=by
 have e:IntKind.u32.wrap ((aQ 32 (a.toNat:Int) ^^^ aQ 32 n).toNat:Int)=((a ^^^ aQ 32 n).toNat:Int):=by rw[jM,mW]
 show Op.intBits .xor .u32 _ _=_;exact congrArg (fun n=>(pure (Value.int .u32 n):Sem Value)) e
@[go_sem] theorem an4:binOp .or t (q32 a) (q32 b)=pure (q32 (a ||| b)):=by
 have e:IntKind.u32.wrap ((aQ 32 (a.toNat:Int) ||| aQ 32 (b.toNat:Int)).toNat:Int)=((a ||| b).toNat:Int):=by rw[jM,jM,mW]
 show Op.intBits .or .u32 _ _=_;exact congrArg (fun n=>(pure (Value.int .u32 n):Sem Value)) e
@[go_sem] theorem aiG (n:Int):binOp .or t (q32 a) (.int .u32 n)=pure (q32 (a ||| aQ 32 n)):=by
 have e:IntKind.u32.wrap ((aQ 32 (a.toNat:Int) ||| aQ 32 n).toNat:Int)=((a ||| aQ 32 n).toNat:Int):=by rw[jM,mW]
 show Op.intBits .or .u32 _ _=_;exact congrArg (fun n=>(pure (Value.int .u32 n):Sem Value)) e
@[go_sem] theorem anN:binOp .and t (q32 a) (q32 b)=pure (q32 (a &&& b)):=by
 have e:IntKind.u32.wrap ((aQ 32 (a.toNat:Int) &&& aQ 32 (b.toNat:Int)).toNat:Int)=((a &&& b).toNat:Int):=by rw[jM,jM,mW]
 show Op.intBits .and .u32 _ _=_;exact congrArg (fun n=>(pure (Value.int .u32 n):Sem Value)) e
@[go_sem] theorem ahS (n:Int):binOp .and t (q32 a) (.int .u32 n)=pure (q32 (a &&& aQ 32 n)):=by
 have e:IntKind.u32.wrap ((aQ 32 (a.toNat:Int) &&& aQ 32 n).toNat:Int)=((a &&& aQ 32 n).toNat:Int):=by rw[jM,mW]
 show Op.intBits .and .u32 _ _=_;exact congrArg (fun n=>(pure (Value.int .u32 n):Sem Value)) e
@[go_sem] theorem anO:binOp .eql t (q32 a) (q32 b)=pure (.bool (a==b)):=by show binOp .eql t (.int .u32 _) (.int .u32 _)=_;rw[binOp_eql,OT]
@[go_sem] theorem anP:binOp .neq t (q32 a) (q32 b)=pure (.bool (a != b)):=by show binOp .neq t (.int .u32 _) (.int .u32 _)=_;rw[binOp_neq,abg]
theorem X6(n:Int)(d:0<=n)(j:n<4294967296):((aQ 32 n).toNat:Int)=n:=by rw[BitVec.toNat_ofInt];omega
@[go_sem] theorem ahT (n:Int) (h0:0<=n) (h1:n<4294967296):binOp .eql t (q32 a) (.int .u32 n)=pure (.bool (a==aQ 32 n)):=by show binOp .eql t (.int .u32 _) (.int .u32 _)=_;rw[binOp_eql,<-OT,X6 n h0 h1]
@[go_sem] theorem ahU (n:Int) (h0:0<=n) (h1:n<4294967296):binOp .neq t (q32 a) (.int .u32 n)=pure (.bool (a != aQ 32 n)):=by show binOp .neq t (.int .u32 _) (.int .u32 _)=_;rw[binOp_neq,<-abg,X6 n h0 h1]
@[go_sem] theorem anQ (yk:IntKind) (n:Int) (h0:0<=n) (hn:n<=32):binOp .shl t (q32 a) (.int yk n)=pure (q32 (a <<< n.toNat)):=by
 have e:IntKind.u32.wrap ((a.toNat:Int)*2 ^ n.toNat)=((a <<< n.toNat).toNat:Int):=by rw[IntKind.wrap_u32,BitVec.toNat_shiftLeft,Nat.shiftLeft_eq];simp
 show Op.shift .shl .u32 _ yk _=_;rw[shift_shl_u32 yk _ _ h0 hn];exact congrArg (fun n=>(pure (Value.int .u32 n):Sem Value)) e
@[go_sem] theorem anR (yk:IntKind) (n:Int) (h0:0<=n) (hn:n<=32):binOp .shr t (q32 a) (.int yk n)=pure (q32 (a >>> n.toNat)):=by
 have e:((a.toNat:Int) / 2 ^ n.toNat)=((a >>> n.toNat).toNat:Int):=by rw[BitVec.toNat_ushiftRight,Nat.shiftRight_eq_div_pow];simp
 show Op.shift .shr .u32 _ yk _=_;rw[shift_shr_u32 yk _ _ h0 hn];exact congrArg (fun n=>(pure (Value.int .u32 n):Sem Value)) e
@[go_sem] theorem ali (op:BinOp) (x y:Operand) (v:Value):eqGuard op t x y (q32 a) v=pure ():=by cases op <;> rfl
@[go_sem] theorem alj:aS.match_1 (fun _=>Array Value) (q32 a) (fun cs=>cs) (fun v=> #[v])= #[q32 a]:=rfl
@[go_sem ↓] theorem alk:aS (q32 a)= #[q32 a]:=rfl
@[go_sem] theorem anS:aK (q32 a)=true:=rfl
@[go_sem] theorem alm (P:Program) (w:World) (p:Addr) (m:Mode):(store p (q32 a) m).run P w=stored P w p (q32 a) m:=run_store P w p _ m rfl
@[go_sem] theorem ahV {P:Program} (w:World) (d:Nat) (k':IntKind) (h:P.underlying t=some (.int k')):(Op.equalIn (d+1) t (q32 a) (q32 b)).run P w=.ok (a==b) w:=by unfold q32;rw[run_equalIn_int w d t .u32 k' _ _ h];exact congrArg (fun r=>Result.ok r w) (OT a b)
end
def q64 (x:BitVec 64):Value:=.int .u64 (x.toNat:Int)
theorem jO(a:BitVec 64):aQ 64 (a.toNat:Int)=a:=by simp
theorem mX(a:BitVec 64):IntKind.u64.wrap (a.toNat:Int)=(a.toNat:Int):=by have:=a.isLt;rw[IntKind.wrap_u64];omega
theorem OU(a b:BitVec 64):((a.toNat:Int)==(b.toNat:Int))=(a==b):=by rw[Bool.eq_iff_iff];simp;exact⟨λh=>BitVec.eq_of_toNat_eq (by omega),λh=>by rw[h]⟩
theorem abh(a b:BitVec 64):((a.toNat:Int) != (b.toNat:Int))=(a != b):=by simp only[bne,OU]
section
variable (t:TypeId) (a b:BitVec 64)
@[go_sem] theorem anT:binOp .add t (q64 a) (q64 b)=pure (q64 (a+b)):=by
 have e:IntKind.u64.wrap ((a.toNat:Int)+b.toNat)=((a+b).toNat:Int):=by rw[IntKind.wrap_u64,BitVec.toNat_add];omega
 simp[q64,binOp,Op.intArith,e]
@[go_sem] theorem anU:binOp .sub t (q64 a) (q64 b)=pure (q64 (a-b)):=by
 have e:IntKind.u64.wrap ((a.toNat:Int)-b.toNat)=((a-b).toNat:Int):=by have:=a.isLt;have:=b.isLt;rw[IntKind.wrap_u64,BitVec.toNat_sub];omega
 simp[q64,binOp,Op.intArith,e]
@[go_sem] theorem afl:binOp .xor t (q64 a) (q64 b)=pure (q64 (a ^^^ b)):=by
 have e:IntKind.u64.wrap ((aQ 64 (a.toNat:Int) ^^^ aQ 64 (b.toNat:Int)).toNat:Int)=((a ^^^ b).toNat:Int):=by rw[jO,jO,mX]
 show Op.intBits .xor .u64 _ _=_;exact congrArg (fun n=>(pure (Value.int .u64 n):Sem Value)) e
@[go_sem] theorem ahW (n:Int):binOp .xor t (q64 a) (.int .u64 n)=pure (q64 (a ^^^ aQ 64 n)):=by
 have e:IntKind.u64.wrap ((aQ 64 (a.toNat:Int) ^^^ aQ 64 n).toNat:Int)=((a ^^^ aQ 64 n).toNat:Int):=by rw[jO,mX]
 show Op.intBits .xor .u64 _ _=_;exact congrArg (fun n=>(pure (Value.int .u64 n):Sem Value)) e
@[go_sem] theorem an5:binOp .or t (q64 a) (q64 b)=pure (q64 (a ||| b)):=by
 have e:IntKind.u64.wrap ((aQ 64 (a.toNat:Int) ||| aQ 64 (b.toNat:Int)).toNat:Int)=((a ||| b).toNat:Int):=by rw[jO,jO,mX]
 show Op.intBits .or .u64 _ _=_;exact congrArg (fun n=>(pure (Value.int .u64 n):Sem Value)) e
@[go_sem] theorem aiH (n:Int):binOp .or t (q64 a) (.int .u64 n)=pure (q64 (a ||| aQ 64 n)):=by
 have e:IntKind.u64.wrap ((aQ 64 (a.toNat:Int) ||| aQ 64 n).toNat:Int)=((a ||| aQ 64 n).toNat:Int):=by rw[jO,mX]
 show Op.intBits .or .u64 _ _=_;exact congrArg (fun n=>(pure (Value.int .u64 n):Sem Value)) e
@[go_sem] theorem anV:binOp .and t (q64 a) (q64 b)=pure (q64 (a &&& b)):=by
 have e:IntKind.u64.wrap ((aQ 64 (a.toNat:Int) &&& aQ 64 (b.toNat:Int)).toNat:Int)=((a &&& b).toNat:Int):=by rw[jO,jO,mX]
 show Op.intBits .and .u64 _ _=_;exact congrArg (fun n=>(pure (Value.int .u64 n):Sem Value)) e
@[go_sem] theorem ahX (n:Int):binOp .and t (q64 a) (.int .u64 n)=pure (q64 (a &&& aQ 64 n)):=by
 have e:IntKind.u64.wrap ((aQ 64 (a.toNat:Int) &&& aQ 64 n).toNat:Int)=((a &&& aQ 64 n).toNat:Int):=by rw[jO,mX]
 show Op.intBits .and .u64 _ _=_;exact congrArg (fun n=>(pure (Value.int .u64 n):Sem Value)) e
@[go_sem] theorem anW:binOp .eql t (q64 a) (q64 b)=pure (.bool (a==b)):=by show binOp .eql t (.int .u64 _) (.int .u64 _)=_;rw[binOp_eql,OU]
@[go_sem] theorem anX:binOp .neq t (q64 a) (q64 b)=pure (.bool (a != b)):=by show binOp .neq t (.int .u64 _) (.int .u64 _)=_;rw[binOp_neq,abh]
theorem X7(n:Int)(d:0<=n)(j:n<18446744073709551616):((aQ 64 n).toNat:Int)=n:=by rw[BitVec.toNat_ofInt];omega
@[go_sem] theorem ahY (n:Int) (h0:0<=n) (h1:n<18446744073709551616):binOp .eql t (q64 a) (.int .u64 n)=pure (.bool (a==aQ 64 n)):=by show binOp .eql t (.int .u64 _) (.int .u64 _)=_;rw[binOp_eql,<-OU,X7 n h0 h1]
@[go_sem] theorem ahZ (n:Int) (h0:0<=n) (h1:n<18446744073709551616):binOp .neq t (q64 a) (.int .u64 n)=pure (.bool (a != aQ 64 n)):=by show binOp .neq t (.int .u64 _) (.int .u64 _)=_;rw[binOp_neq,<-abh,X7 n h0 h1]
@[go_sem] theorem anY (yk:IntKind) (n:Int) (h0:0<=n) (hn:n<=64):binOp .shl t (q64 a) (.int yk n)=pure (q64 (a <<< n.toNat)):=by
 have e:IntKind.u64.wrap ((a.toNat:Int)*2 ^ n.toNat)=((a <<< n.toNat).toNat:Int):=by rw[IntKind.wrap_u64,BitVec.toNat_shiftLeft,Nat.shiftLeft_eq];simp
 show Op.shift .shl .u64 _ yk _=_;rw[shift_shl_u64 yk _ _ h0 hn];exact congrArg (fun n=>(pure (Value.int .u64 n):Sem Value)) e
@[go_sem] theorem anZ (yk:IntKind) (n:Int) (h0:0<=n) (hn:n<=64):binOp .shr t (q64 a) (.int yk n)=pure (q64 (a >>> n.toNat)):=by
 have e:((a.toNat:Int) / 2 ^ n.toNat)=((a >>> n.toNat).toNat:Int):=by rw[BitVec.toNat_ushiftRight,Nat.shiftRight_eq_div_pow];simp
 show Op.shift .shr .u64 _ yk _=_;rw[shift_shr_u64 yk _ _ h0 hn];exact congrArg (fun n=>(pure (Value.int .u64 n):Sem Value)) e
@[go_sem] theorem aln (op:BinOp) (x y:Operand) (v:Value):eqGuard op t x y (q64 a) v=pure ():=by cases op <;> rfl
@[go_sem] theorem alo:aS.match_1 (fun _=>Array Value) (q64 a) (fun cs=>cs) (fun v=> #[v])= #[q64 a]:=rfl
@[go_sem ↓] theorem alp:aS (q64 a)= #[q64 a]:=rfl
@[go_sem] theorem an0:aK (q64 a)=true:=rfl
@[go_sem] theorem alq (P:Program) (w:World) (p:Addr) (m:Mode):(store p (q64 a) m).run P w=stored P w p (q64 a) m:=run_store P w p _ m rfl
@[go_sem] theorem ah0 {P:Program} (w:World) (d:Nat) (k':IntKind) (h:P.underlying t=some (.int k')):(Op.equalIn (d+1) t (q64 a) (q64 b)).run P w=.ok (a==b) w:=by unfold q64;rw[run_equalIn_int w d t .u64 k' _ _ h];exact congrArg (fun r=>Result.ok r w) (OU a b)
end
def q8 (x:UInt8):Value:=.int .u8 (x.toNat:Int)
theorem oD(a:UInt8):aQ 8 (a.toNat:Int)=a.toBitVec:=by apply BitVec.eq_of_toNat_eq;have:=a.toNat_lt;simp
theorem abj(a b:UInt8):((a.toNat:Int)==(b.toNat:Int))=(a==b):=by rw[Bool.eq_iff_iff];simp;exact⟨λh=>UInt8.toNat_inj.1 (by omega),λh=>by rw[h]⟩
theorem alv(a b:UInt8):((a.toNat:Int) != (b.toNat:Int))=(a != b):=by simp only[bne,abj]
section
variable (t:TypeId) (a b:UInt8)
@[go_sem] theorem an6:binOp .xor t (q8 a) (q8 b)=pure (q8 (a ^^^ b)):=by
 have e:IntKind.u8.wrap ((aQ 8 (a.toNat:Int) ^^^ aQ 8 (b.toNat:Int)).toNat:Int)=((a ^^^ b).toNat:Int):=by rw[oD,oD,IntKind.wrap_u8];have h:(a.toBitVec ^^^ b.toBitVec).toNat=(a ^^^ b).toNat:=rfl;have:=(a ^^^ b).toNat_lt;rw[h];omega
 show Op.intBits .xor .u8 _ _=_;exact congrArg (fun n=>(pure (Value.int .u8 n):Sem Value)) e
@[go_sem] theorem an1:binOp .quo t (q8 a) (.int .u8 2)=pure (q8 (a / 2)):=by
 have e:(IntKind.u8.wrap ((a.toNat:Int).tdiv 2))=((a / 2).toNat:Int):=by have:=a.toNat_lt;rw[IntKind.wrap_u8,UInt8.toNat_div,Int.tdiv_eq_ediv_of_nonneg (by omega)];simp;omega
 show binOp .quo t (.int .u8 _) (.int .u8 _)=_;rw[binOp_quo];unfold Op.intDiv;simp only[show ¬((2:Int)=0) by decide,if_false];exact congrArg (fun n=>(pure (Value.int .u8 n):Sem Value)) e
@[go_sem] theorem an2:binOp .rem t (q8 a) (.int .u8 2)=pure (q8 (a % 2)):=by
 have e:(((a.toNat:Int).tmod 2))=((a % 2).toNat:Int):=by have:=a.toNat_lt;rw[UInt8.toNat_mod,Int.tmod_eq_emod_of_nonneg (by omega)];simp
 show binOp .rem t (.int .u8 _) (.int .u8 _)=_;rw[binOp_rem];unfold Op.intDiv;simp only[show ¬((2:Int)=0) by decide,if_false];exact congrArg (fun n=>(pure (Value.int .u8 n):Sem Value)) e
@[go_sem] theorem aiI:binOp .eql t (q8 a) (q8 b)=pure (.bool (a==b)):=by show binOp .eql t (.int .u8 _) (.int .u8 _)=_;rw[binOp_eql,abj]
@[go_sem] theorem an7:binOp .neq t (q8 a) (q8 b)=pure (.bool (a != b)):=by show binOp .neq t (.int .u8 _) (.int .u8 _)=_;rw[binOp_neq,alv]
@[go_sem] theorem alx (op:BinOp) (x y:Operand) (v:Value):eqGuard op t x y (q8 a) v=pure ():=by cases op <;> rfl
@[go_sem] theorem aly:aS.match_1 (fun _=>Array Value) (q8 a) (fun cs=>cs) (fun v=> #[v])= #[q8 a]:=rfl
@[go_sem ↓] theorem alz:aS (q8 a)= #[q8 a]:=rfl
@[go_sem] theorem an8:aK (q8 a)=true:=rfl
@[go_sem] theorem alA (P:Program) (w:World) (p:Addr) (m:Mode):(store p (q8 a) m).run P w=stored P w p (q8 a) m:=run_store P w p _ m rfl
@[go_sem] theorem aiJ {P:Program} (w:World) (d:Nat) (k':IntKind) (h:P.underlying t=some (.int k')):(Op.equalIn (d+1) t (q8 a) (q8 b)).run P w=.ok (a==b) w:=by unfold q8;rw[run_equalIn_int w d t .u8 k' _ _ h];exact congrArg (fun r=>Result.ok r w) (abj a b)
end
section
variable (t:TypeId) (a:BitVec 64) (n:Int)
@[go_sem] theorem ah1:binOp .mul t (q64 a) (.int .u64 n)=pure (q64 (a*aQ 64 n)):=by
 have e:IntKind.u64.wrap ((a.toNat:Int)*n)=((a*aQ 64 n).toNat:Int):=by
  rw[IntKind.wrap_u64,BitVec.toNat_mul,BitVec.toNat_ofInt];have h:((n % 18446744073709551616).toNat:Int)=n % 18446744073709551616:=by omega
  simp only[Int.natCast_emod,Int.natCast_mul];show _=((a.toNat:Int)*((n % 18446744073709551616).toNat:Int)) % 18446744073709551616;rw[h,Int.mul_emod (a.toNat:Int) n,Int.mul_emod (a.toNat:Int) (n % 18446744073709551616),Int.emod_emod_of_dvd n (Int.dvd_refl _)]
 simp[q64,binOp,Op.intArith,e]
@[go_sem] theorem ah2:binOp .sub t (.int .u64 n) (q64 a)=pure (q64 (aQ 64 n-a)):=by
 have e:IntKind.u64.wrap (n-(a.toNat:Int))=((aQ 64 n-a).toNat:Int):=by have:=a.isLt;rw[IntKind.wrap_u64,BitVec.toNat_sub,BitVec.toNat_ofInt];omega
 simp[q64,binOp,Op.intArith,e]
end
section
variable {P:Program} (w:World) (src dst:TypeId)
@[go_sem] theorem alr (a:UInt8) (hs:(P.underlying src).isSome=true) (hd:P.underlying dst=some (.int .u64)):(convert src dst (q8 a)).run P w=.ok (q64 (bT 64 a.toNat)) w:=by
 obtain⟨d,hd'⟩:=Option.isSome_iff_exists.mp hs;have e:IntKind.u64.wrap (a.toNat:Int)=((bT 64 a.toNat).toNat:Int):=by have:=a.toNat_lt;rw[IntKind.wrap_u64,BitVec.toNat_ofNat];omega
 simp[q8,convert,run_underlying hd',run_underlying hd,Conv.intToInt,e,q64]
@[go_sem] theorem aiK (a:UInt8) (hs:(P.underlying src).isSome=true) (hd:P.underlying dst=some (.int .i64)):(convert src dst (q8 a)).run P w=.ok (.int .i64 a.toNat) w:=by
 obtain⟨d,hd'⟩:=Option.isSome_iff_exists.mp hs;have e:IntKind.i64.wrap (a.toNat:Int)=(a.toNat:Int):=by have:=a.toNat_lt;rw[IntKind.wrap_i64];omega
 simp[q8,convert,run_underlying hd',run_underlying hd,Conv.intToInt,e]
@[go_sem] theorem als (a:BitVec 32) (hs:(P.underlying src).isSome=true) (hd:P.underlying dst=some (.int .u8)):(convert src dst (q32 a)).run P w=.ok (q8 (UInt8.ofBitVec (a.setWidth 8))) w:=by
 obtain⟨d,hd'⟩:=Option.isSome_iff_exists.mp hs;have e:IntKind.u8.wrap (a.toNat:Int)=((UInt8.ofBitVec (a.setWidth 8)).toNat:Int):=by
  have h:(UInt8.ofBitVec (a.setWidth 8)).toNat=a.toNat % 256:=by show(a.setWidth 8).toNat=_;rw[BitVec.toNat_setWidth]
  rw[IntKind.wrap_u8,h];omega
 simp[q32,convert,run_underlying hd',run_underlying hd,Conv.intToInt,e,q8]
@[go_sem] theorem alu (a:BitVec 64) (hs:(P.underlying src).isSome=true) (hd:P.underlying dst=some (.int .u8)):(convert src dst (q64 a)).run P w=.ok (q8 (UInt8.ofBitVec (a.setWidth 8))) w:=by
 obtain⟨d,hd'⟩:=Option.isSome_iff_exists.mp hs;have e:IntKind.u8.wrap (a.toNat:Int)=((UInt8.ofBitVec (a.setWidth 8)).toNat:Int):=by
  have h:(UInt8.ofBitVec (a.setWidth 8)).toNat=a.toNat % 256:=by show(a.setWidth 8).toNat=_;rw[BitVec.toNat_setWidth]
  rw[IntKind.wrap_u8,h];omega
 simp[q64,convert,run_underlying hd',run_underlying hd,Conv.intToInt,e,q8]
end
section
variable {P:Program} (w:World) (src dst:TypeId)
@[go_sem] theorem aiL (a:BitVec 32) (hs:(P.underlying src).isSome=true) (hd:P.underlying dst=some (.int .u64)):(convert src dst (q32 a)).run P w=.ok (q64 (a.setWidth 64)) w:=by
 obtain⟨d,hd'⟩:=Option.isSome_iff_exists.mp hs;have e:IntKind.u64.wrap (a.toNat:Int)=((a.setWidth 64).toNat:Int):=by have:=a.isLt;rw[IntKind.wrap_u64,BitVec.toNat_setWidth];omega
 simp[q32,convert,run_underlying hd',run_underlying hd,Conv.intToInt,e,q64]
@[go_sem] theorem aiM (a:BitVec 64) (hs:(P.underlying src).isSome=true) (hd:P.underlying dst=some (.int .u32)):(convert src dst (q64 a)).run P w=.ok (q32 (a.setWidth 32)) w:=by
 obtain⟨d,hd'⟩:=Option.isSome_iff_exists.mp hs;have e:IntKind.u32.wrap (a.toNat:Int)=((a.setWidth 32).toNat:Int):=by rw[IntKind.wrap_u32,BitVec.toNat_setWidth];omega
 simp[q64,convert,run_underlying hd',run_underlying hd,Conv.intToInt,e,q32]
end
theorem Rn(x:BitVec 32)(a b:Nat)(h:a+b=32)(j:0<a)(H:0<b):(x.rotateLeft a).rotateLeft b=x:=by
 apply BitVec.eq_of_getLsbD_eq;intro i hi;rw[BitVec.getLsbD_rotateLeft,dF (by omega:b<32)];by_cases d:i<b;·rw[decide_eq_true d,cond_true,BitVec.getLsbD_rotateLeft,dF (by omega:a<32),decide_eq_false (by omega),cond_false,decide_eq_true (by omega),Bool.true_and];congr 1;omega
 ·rw[decide_eq_false d,cond_false,decide_eq_true hi,Bool.true_and,BitVec.getLsbD_rotateLeft,dF (by omega:a<32),decide_eq_true (by omega),cond_true];congr 1;omega
theorem abk(a b:BitVec 32):(a ^^^ b) ^^^ b=a:=by rw[BitVec.xor_assoc,BitVec.xor_self,BitVec.xor_zero]
theorem Zf(a b:BitVec 32):a ^^^ (b ^^^ a)=b:=by rw[BitVec.xor_comm b a,<-BitVec.xor_assoc,BitVec.xor_self,BitVec.zero_xor]
def Jk (p:BitVec 32 × BitVec 32):BitVec 64:=p.1.setWidth 64 <<< 32 ||| p.2.setWidth 64
def arv (b:BitVec 64):BitVec 32 × BitVec 32:=((b >>> 32).setWidth 32,b.setWidth 32)
theorem VB(b:BitVec 64):Jk (arv b)=b:=by
 unfold Jk arv;apply BitVec.eq_of_getLsbD_eq;intro i hi;by_cases h:i<32;·simp[h,hi]
 ·have d:32+(i-32)=i:=by omega
  have j:i-32<32:=by omega
  simp[-BitVec.getElem_ushiftRight,h,hi,d,j]
theorem VD(p:BitVec 32 × BitVec 32):arv (Jk p)=p:=by
 obtain⟨x,y⟩:=p;unfold Jk arv;refine Prod.ext ?_ ?_
 ·apply BitVec.eq_of_getLsbD_eq;intro i hi;have d:32+i<64:=by omega
  have j:i<64:=by omega
  simp[hi,d,j]
 ·apply BitVec.eq_of_getLsbD_eq;intro i hi;simp[hi]
structure K4 where
  k0:BitVec 32
  k1:BitVec 32
  k2:BitVec 32
  k3:BitVec 32
deriving DecidableEq
def asg (k:K4):Nat->BitVec 32 × BitVec 32 × BitVec 32 × BitVec 32
 |0=>(k.k3,k.k2,k.k1,k.k0)
 |i+1=>
   let s:=asg k i
   let l:=(s.1+s.2.1.rotateLeft 24) ^^^ bT 32 i
   (s.1.rotateLeft 3 ^^^ l, s.2.2.1, s.2.2.2, l)
def rk (k:K4) (i:Nat):BitVec 32:=(asg k i).1
def lk (k:K4) (i:Nat):BitVec 32:=(asg k i).2.1
def ash (r:BitVec 32) (p:BitVec 32 × BitVec 32):BitVec 32 × BitVec 32:=((p.1.rotateLeft 24+p.2) ^^^ r,p.2.rotateLeft 3 ^^^ ((p.1.rotateLeft 24+p.2) ^^^ r))
def afm (r:BitVec 32) (p:BitVec 32 × BitVec 32):BitVec 32 × BitVec 32:=(((p.1 ^^^ r)-(p.1 ^^^ p.2).rotateLeft 29).rotateLeft 8,(p.1 ^^^ p.2).rotateLeft 29)
theorem abl(r:BitVec 32)(p:BitVec 32 × BitVec 32):afm r (ash r p)=p:=by obtain⟨x,y⟩:=p;unfold afm ash;simp only[Zf,abk];rw[Rn y 3 29 rfl (by decide) (by decide),BitVec.add_sub_cancel,Rn x 24 8 rfl (by decide) (by decide)]
def OV (k:K4):Nat->BitVec 32 × BitVec 32->BitVec 32 × BitVec 32
 |0,p=>p
 |n+1,p=>ash (rk k n) (OV k n p)
def afn (k:K4):Nat->BitVec 32 × BitVec 32->BitVec 32 × BitVec 32
 |0,p=>p
 |n+1,p=>afn k n (afm (rk k n) p)
theorem Zg(k:K4)(n:Nat)(p:BitVec 32 × BitVec 32):afn k n (OV k n p)=p:=by induction n with|zero=>rfl|succ n d=>show afn k n (afm (rk k n) (ash (rk k n) (OV k n p)))=p;rw[abl,d]
def Enc (k:K4) (b:BitVec 64):BitVec 64:=Jk (OV k 27 (arv b))
def Dec (k:K4) (b:BitVec 64):BitVec 64:=Jk (afn k 27 (arv b))
theorem X8(k:K4)(b:BitVec 64):Dec k (Enc k b)=b:=by unfold Dec Enc;rw[VD,Zg,VB]
theorem X9(k:K4){a b:BitVec 64}:Enc k a=Enc k b<->a=b:=⟨λh=>by rw[<-X8 k a,<-X8 k b,h],λh=>by rw[h]⟩
theorem Ya(w:World)(A:Array Value)(t:TypeId)(b i:Nat)(v:Value)(H:b=w.heap.size):(w.alloc (.cells A t)).setCell ⟨b,i,none⟩ v=w.alloc (.cells (A.setIfInBounds i v) t):=by
 subst H;unfold World.alloc dD;simp only;congr 1;apply Array.ext;·simp
 ·intro d j J;simp only[Array.getElem_modify,Array.getElem_push];simp only[Array.size_modify,Array.size_push]at j;by_cases h:d<w.heap.size;·(have hn:w.heap.size≠d:=by omega);simp[h,hn]
  ·(have hn:w.heap.size=d:=by omega);simp[hn]
theorem afo(w:World)(o:Obj)(b i:Nat)(v:Value)(J:b<w.heap.size):(w.alloc o).setCell ⟨b,i,none⟩ v=(w.setCell ⟨b,i,none⟩ v).alloc o:=by
 unfold World.alloc dD;simp only;congr 1;apply Array.ext;·simp
 ·intro d j H;simp only[Array.getElem_modify,Array.getElem_push,Array.size_modify];simp only[Array.size_modify,Array.size_push]at j;by_cases h:d<w.heap.size;·simp[h]
  ·(have hn:b≠d:=by omega);simp[h,hn]
theorem Nq(w:World)(n:Nat)(p:Addr)(v:Value):(w.drewN n).setCell p v=(w.setCell p v).drewN n:=rfl
theorem aq3{B:Nat}{a w:World}(h:Below B a w)(n:Nat):Below B a (w.drewN n):=⟨h.os,h.tape,h.output,h.size,h.block⟩
theorem iP{w w':World}{o:Obj}(h:Below (w.alloc o).heap.size (w.alloc o) w'):w w':=(gY.alloc ig o).trans (h.mono (by simp))
theorem Ir{w w':World}{d j:Obj}(h:Below ((w.alloc d).alloc j).heap.size ((w.alloc d).alloc j) w'):Below (w.alloc d).heap.size (w.alloc d) w':=iP h
theorem gZ{w d j:World}(h:w d)(k:d j):w j:=h.trans (k.mono h.size)
def fK (w:World) (g:Nat) (t:TypeId) (cs:Array Value):Prop:=w.heap[g]? =some (.cells cs t (0,0))
section
variable {w w':World} {g:Nat} {t:TypeId} {cs:Array Value}
theorem fK.lt(h:fK w g t cs):g<w.heap.size:=by
 rcases eu g w with j |d;·exact j
 ·unfold fK at h;rw[dI d]at h;cases h
theorem fK.cell(h:fK w g t cs)(i:Nat):w.cell? ⟨g,i,none⟩=cs[i]? :=cell_of_row w g i cs t (0,0) h
theorem fK.frozen(h:fK w g t cs)(i:Nat):w.frozen? ⟨g,i,none⟩=false:=by unfold fK at h;simp[World.frozen?,h]
theorem fK.new(w:World)(t:TypeId)(cs:Array Value):fK (w.alloc (.cells cs t)) w t cs:=heap_alloc_new w _
theorem fK.newAt(w:World)(t:TypeId)(cs:Array Value)(g:Nat)(d:g=w.heap.size):fK (w.alloc (.cells cs t)) g t cs:=d▸heap_alloc_new w _
theorem fK.drewN(h:fK w g t cs)(n:Nat):fK (w.drewN n) g t cs:=h
theorem fK.drew(h:fK w g t cs):fK w.drew g t cs:=h
theorem fK.alloc(h:fK w g t cs)(o:Obj):fK (w.alloc o) g t cs:=(Below.heap_alloc w o g h.lt).trans h
theorem fK.iV(h:fK w g t cs)(i:Nat)(u:Value):fK (w.setCell ⟨g,i,none⟩ u) g t (cs.setIfInBounds i u):=by unfold fK at h ⊢;simp[dD,Array.getElem?_modify,h]
theorem fK.far(h:fK w g t cs){p:Addr}(d:g≠p.block)(u:Value):fK (w.setCell p u) g t cs:=(aN w p u g d).trans h
theorem fK.below{B:Nat}(h:fK w g t cs)(d:Below B w w')(j:g<B):fK w' g t cs:=(d.block g j).trans h
theorem fK.grown{row:Option Nat}(h:fK w g t cs)(d:w.grownBy w' row)(j:some g≠row):fK w' g t cs:=(d.block g h.lt j).trans h
end
theorem fK.row{w:World}{g:Nat}{t:TypeId}{old:Array Value}(h:fK w g t old)(cs:Array Value):fK (w.setRow g cs) g t cs:=setRow_heap w g old cs t (0,0) h
theorem fK.OW{w:World}{g k:Nat}{t:TypeId}{cs:Array Value}(h:fK w g t cs)(d:g≠k)(new:Array Value):fK (w.setRow k new) g t cs:=(setRow_other w k g new d).trans h
theorem jk{B:Nat}{a w:World}(h:Below B a w){g:Nat}(d:B<=g)(cs:Array Value):Below B a (w.setRow g cs):=⟨h.os,h.tape,h.output,by simpa using h.size,λi hi=>(setRow_other w g i cs (by omega)).trans (h.block i hi)⟩
theorem LQ{P:Program}(t e:TypeId)(n:Nat)(cs:Array Value)(k:IntKind)(i:Int)(v:Value)(N:P.underlying t=some (.array n e))(K: ∀w:World,(isAgg e).run P w=.ok false w)(j:(P.info? e).map (·.size)=some 1)(H:0<=i)(J:i<n)(O:cs[i.toNat]? =some v)(w:World):(Instr.index t cs (.int k i)).run P w=.ok v w:=by
 cases d:P.info? e with
 |none=>simp[d]at j
 |some U=>
  have M:U.size=1:=by simpa[d] using j
  simp[Instr.index,asIntOf,run_underlying N,H,J,sizeOf,typeInfo,d,M,part,K w,O]
theorem gy{P:Program}{ops:Array Oper}{rest:List Oper}{o:Oper}{a:Act}{w:World}{Q:Exit->Act->World->Prop}(J:o.guard=none)(ty:TypeId)(x:Operand)(K:o.op=.load ty x)(g:Nat)(N:a.eval x=.pointer g)(t:TypeId)(cs:Array Value)(d:TypeDesc)(H:fK w g t cs)(M:P.underlying ty=some d)(j:(match d with | .struct _ | .array _ _=>true |_=>false)=true)(hi:(P.info? ty).map (·.size)=some cs.size)(h:wpList P ops Q rest (a.put o.dst cs) w):wpList P ops Q (o::rest) a w:=wpList_load_row J ty x K g N t cs (0,0) d H M j hi h
theorem F7{P:Program}{ops:Array Oper}{rest:List Oper}{o:Oper}{a:Act}{w:World}{Q:Exit->Act->World->Prop}(M:o.guard=none)(ty:TypeId)(x y:Operand)(U:o.op=.store ty x y)(g:Nat)(cells:Array Value)(Y:a.eval x=.pointer g)(Z:a.eval y=cells)(t:TypeId)(old:Array Value)(j:fK w g t old)(hi:(P.info? ty).map (·.size)=some cells.size)(V:old.size=cells.size)(J:cells.all (·.oneCell')=true)(B:Nat)(w0:World)(K:Below B w0 w)(hB:B<=g)(h: ∀W:World,fK W g t cells->Below B w0 W->W.heap.size=w.heap.size->(∀(d:Nat) (H:TypeId) (cs':Array Value),d≠g->fK w d H cs'->fK W d H cs')->wpList P ops Q rest (a.put o.dst undef) W):wpList P ops Q (o::rest) a w:=wpList_store_row M ty x y U g cells Y Z t old j hi V J (h _ (fK.row j _) (jk K hB _) (by simp) λ_ _ _ O N=>N.OW O _)
theorem asn{P:Program}{e:TypeId}(d:Nat)(xs j:Array Value)(H: ∀w:World,(isAgg e).run P w=.ok false w)(x y:Nat->Value)(b:Nat->Bool)(w:World): ∀is:List Nat,(∀i∈is,xs[i]? =some (x i)/\j[i]? =some (y i)/\(Op.equalIn d e (x i) (y i)).run P w=.ok (b i) w)->(Op.eqItems d e 1 xs j is).run P w=.ok (is.all b) w
 | [],_=>by simp[Op.eqItems]
 |i::is,h=>by obtain⟨J,K,M⟩:=h i (by simp);have O:=asn d xs j H x y b w is (λU N=>h U (by simp[N]));simp only[Op.eqItems,part,Sem.run_bind,H w,Nat.mul_one,J,K,dO,bU,if_false,Sem.run_ite,Sem.run_pure,M,O,List.all_cons];cases b i <;> simp
theorem qG{W d:World}(j:W d):(∀b o,b<W.heap.size->d.cell? ⟨b,o,none⟩=W.cell? ⟨b,o,none⟩)/\(∀b o,b<W.heap.size->d.frozen? ⟨b,o,none⟩=W.frozen? ⟨b,o,none⟩):=⟨λb o h=>j.cell (p:=⟨b,o,none⟩) h,λb o h=>j.frozen (p:=⟨b,o,none⟩) h⟩
theorem Es(a:Addr)(n:Nat):(a.add n).block=a.block:=by unfold Addr.add;split <;> rfl
theorem VE(a:Addr)(i d:Nat):(a.add i).add d=a.add (i+d):=by unfold Addr.add;by_cases hi:i=0 <;> by_cases j:d=0 <;> simp[hi,j,Nat.add_assoc]
def ari (w:World) (B size:Nat) (A:Option Addr) (n:Nat) (xs:List Value):Prop:=xs.length=n*size/\(0<n-> ∃ad,A=some ad/\ad.block<B/\ ∀j u,xs[j]? =some u->w.cell? (ad.add j)=some u)
section
variable {w w':World} {B B' size n:Nat} {A:Option Addr} {xs:List Value}
theorem ari.none_:ari w B size A 0 []:=⟨by simp,λh=>absurd h (by omega)⟩
theorem ari.at_{k:Nat}(h:ari w B 1 A n xs)(J:k<n): ∃d u,A=some d/\d.block<B/\xs[k]? =some u/\w.cell? (d.add k)=some u:=by
 obtain⟨d,e,H,hc⟩:=h.2 (by omega);have j:k<xs.length:=by have:=h.1;omega
 exact⟨d,xs[k],e,H,aI j,hc k _ (aI j)⟩
theorem ari.keep(h:ari w B size A n xs)(H: ∀p:Addr,p.block<B->w'.cell? p=w.cell? p):ari w' B size A n xs:=⟨h.1,λhn=>by obtain⟨j,e,d,hc⟩:=h.2 hn;exact⟨j,e,d,λK u J=>(H _ (by rw[Es];exact d)).trans (hc K u J)⟩⟩
theorem ari.more(h:ari w B size A n xs)(hB:B<=B'):ari w B' size A n xs:=⟨h.1,λhn=>by obtain⟨d,e,j,hc⟩:=h.2 hn;exact⟨d,e,by omega,hc⟩⟩
theorem ari.below(h:ari w B size A n xs)(d:Below B w w'):ari w' B size A n xs:=h.keep λ_ j=>d.cell j
theorem ari.drew(h:ari w B size A n xs):ari w.drew B size A n xs:=h
theorem ari.drewN(h:ari w B size A n xs)(k:Nat):ari (w.drewN k) B size A n xs:=h
theorem ari.alloc(h:ari w B size A n xs)(hB:B<=w.heap.size)(o:Obj):ari (w.alloc o) B size A n xs:=h.keep λp d=>World.cell?_alloc_lt w o p (by omega)
theorem ari.setCell(h:ari w B size A n xs){p:Addr}(hB:B<=p.block)(u:Value):ari (w.setCell p u) B size A n xs:=h.keep λq d=>World.cell?_setCell_other w p q u (λe=>by subst e;omega)
theorem ari.grown(h:ari w B size A n xs){row:Option Nat}(d:w.grownBy w' row)(hB:B<=w.heap.size)(j: ∀g,row=some g->B<=g):ari w' B size A n xs:=h.keep λp H=>World.cell?_of_block (d.block p.block (by omega) (λe=>by have:=j _ e.symm;omega))
theorem ari.cut(h:ari w B size A n xs){k cap:Nat}(K:k<=n)(hc:n<=cap):ari w B size (if cap=k then A else A.map (·.add (k*size))) (n-k) (xs.drop (k*size)):=by refine⟨by rw[List.length_drop,h.1,Nat.sub_mul],λhn=>?_⟩;obtain⟨d,rfl,j,H⟩:=h.2 (by omega);rw[if_neg (by omega)];refine⟨d.add (k*size),rfl,by rw[Es];exact j,λM u J=>?_⟩;rw[VE];exact H _ u (by rw[<-J,List.getElem?_drop])
end
section
variable {P:Program} (w:World)
theorem Et(base:Nat)(t ty e:TypeId)(i:TypeInfo)(size:Nat)(d:P.underlying t=some (.slice e))(hi:P.info? e=some i)(v:Value)(n:Nat)(xs:List Value)(H:w.ownsRow base e size v n xs)(c:Nat):(Builtin.append_ #[t,t] ty #[v,.slice none 0 c]).run P w=.ok v w:=by
 rcases H.2 with⟨rfl,rfl⟩ |⟨g,cap,cur,rfl,_,_,j,_⟩;·simp[Builtin.append_,run_underlying d,sizeOf,typeInfo,hi,Builtin.lenOf,Builtin.firstCells]
 ·simp[Builtin.append_,run_underlying d,sizeOf,typeInfo,hi,Builtin.lenOf,Builtin.firstCells,j,storeCells]
theorem Jl(base:Nat)(t ty e:TypeId)(i:TypeInfo)(z:Value)(size bytes:Nat)(O:P.underlying t=some (.slice e))(hi:P.info? e=some i)(hz:i.zero=some z)(ai:i.size=size)(ad:i.bytes=bytes)(al:z.cells.size=size)(ak:0<size)(v:Value)(n:Nat)(xs:List Value)(N:w.ownsRow base e size v n xs)(B:Nat)(A:Option Addr)(m c:Nat)(j:List Value)(J:ari w B size A m j)(V: ∀u∈j,u.oneCell'=true)(aa:n+m<=maxLen)(ae:(n+m)*bytes<=140737488355328)(ac:base<=w.heap.size): ∃H w',(Builtin.append_ #[t,t] ty #[v,.slice A m c]).run P w=.ok H w'/\w'.ownsRow base e size H (n+m) (xs++j)/\w.grownBy w' v.ownBlock/\(H.ownBlock=v.ownBlock\/H.ownBlock=some w.heap.size):=by
 rcases A with _ |M
 ·have hm:m=0:=by rcases Nat.eq_zero_or_pos m with d |d;(·exact d);·obtain⟨M,h,_⟩:=J.2 d;cases h
  subst hm;have hn:j= []:=dw (by simpa using J.1);subst hn;exact⟨v,w,Et w base t ty e i size O hi v n xs N c,by simpa using N,World.grownBy.refl w _,.inl rfl⟩
 ·have af: ∀K u,j[K]? =some u->w.cell? (M.add K)=some u:=by intro K u U;rcases Nat.eq_zero_or_pos m with d |d;(·subst d;have hn:j= []:=dw (by simpa using J.1);subst hn;simp at U);·obtain⟨am,h,_,hc⟩:=J.2 d;injection h with h;subst h;exact hc K u U
  obtain⟨H,w',ag,Y,Z,_,h5⟩:=run_append_own_at (P:=P) w base t ty e i z size bytes O hi hz ai ad al ak v n xs N M m c j J.1 af V aa ae ac;exact⟨H,w',ag,Y,Z,h5⟩
theorem CO{o:Oper}{a:Act}{H:Act->World->Prop}{Q:Exit->Act->World->Prop}(s x:Operand)(t:TypeId)(Z:o.op=.call {callee:=.builtin .append,args:= #[s,x],argTypes:= #[t,t]})(base:Nat)(e:TypeId)(i:TypeInfo)(z:Value)(size bytes:Nat)(ht:P.underlying t=some (.slice e))(hi:P.info? e=some i)(hz:i.zero=some z)(ad:i.size=size)(V:i.bytes=bytes)(af:z.cells.size=size)(ae:0<size)(v:Value)(n:Nat)(xs:List Value)(hs:a.eval s=v)(aa:w.ownsRow base e size v n xs)(B:Nat)(A:Option Addr)(m c:Nat)(j:List Value)(hx:a.eval x=.slice A m c)(hr:ari w B size A m j)(J: ∀u∈j,u.oneCell'=true)(O:n+m<=maxLen)(Y:(n+m)*bytes<=140737488355328)(U:base<=w.heap.size)(h: ∀d w',w'.ownsRow base e size d (n+m) (xs++j)->w.grownBy w' v.ownBlock->(d.ownBlock=v.ownBlock\/d.ownBlock=some w.heap.size)->H (a.put o.dst d) w'):o.wp P a w H Q:=by obtain⟨d,w',ac,K,M,N⟩:=Jl (P:=P) w base t o.type e i z size bytes ht hi hz ad V af ae v n xs aa B A m c j hr J O Y U;unfold Oper.wp execOp;simp only[Z,resolve,invoke,builtin,Sem.run_bind,Sem.run_pure,dO,List.map_toArray,List.map_cons,List.map_nil,hs,hx,ac];exact h d w' K M N
theorem wF{ops:Array Oper}{rest:List Oper}{o:Oper}{a:Act}{Q:Exit->Act->World->Prop}(Z:o.guard=none)(s x:Operand)(t:TypeId)(ho:o.op=.call {callee:=.builtin .append,args:= #[s,x],argTypes:= #[t,t]})(base:Nat)(e:TypeId)(i:TypeInfo)(z:Value)(size bytes:Nat)(ht:P.underlying t=some (.slice e))(hi:P.info? e=some i)(hz:i.zero=some z)(ac:i.size=size)(V:i.bytes=bytes)(ae:z.cells.size=size)(ad:0<size)(v:Value)(n:Nat)(xs:List Value)(hs:a.eval s=v)(aa:w.ownsRow base e size v n xs)(B:Nat)(A:Option Addr)(m c:Nat)(j:List Value)(hx:a.eval x=.slice A m c)(hr:ari w B size A m j)(H: ∀u∈j,u.oneCell'=true)(N:n+m<=maxLen)(Y:(n+m)*bytes<=140737488355328)(U:base<=w.heap.size)(h: ∀d w',w'.ownsRow base e size d (n+m) (xs++j)->w.grownBy w' v.ownBlock->(d.ownBlock=v.ownBlock\/d.ownBlock=some w.heap.size)->wpList P ops Q rest (a.put o.dst d) w'):wpList P ops Q (o::rest) a w:=wpList_plain Z λ_ O=>CO w s x t ho base e i z size bytes ht hi hz ac V ae ad v n xs hs aa B A m c j hx hr H N Y U λd w' J K M=>O _ _ (h d w' J K M)
end
theorem ari.block{w:World}{g:Nat}{t:TypeId}{cs:Array Value}{size m:Nat}(h:fK w g t cs)(H:cs.size=m*size):ari w w size g m cs.toList:=by
 refine⟨by simpa using H,λ_=>⟨⟨g,0,none⟩,rfl,h.lt,λd u J=>?_⟩⟩;have j:(⟨g,0,none⟩:Addr).add d=⟨g,d,none⟩:=by unfold Addr.add;split <;> simp_all
 rw[j,h.cell];simpa using J
theorem ar8{w W:World}{base:Nat}{e:TypeId}{size n:Nat}{v:Value}{xs:List Value}(h:w.ownsRow base e size v n xs)(d:w W):W.ownsRow base e size v n xs:=h.kept (row:=none) ⟨d.os,d.tape,d.output,d.size,λk j _=>d.block k j⟩ (by cases v.ownBlock <;> simp)
structure Kin (w:World) where
  W:World
  below:w W
instance (w:World):Nonempty (Kin w):=⟨⟨w,aH _ _⟩⟩
section
variable {P:Program} {w:World}
@[go_sem] theorem alB (s:Kin w) (b o:Nat) (h:b<w.heap.size):s.W.cell? ⟨b,o,none⟩=w.cell? ⟨b,o,none⟩:=s.below.cell (p:=⟨b,o,none⟩) h
@[go_sem] theorem aiN (s:Kin w) (b o:Nat) (h:b<w.heap.size):s.W.frozen? ⟨b,o,none⟩=w.frozen? ⟨b,o,none⟩:=s.below.frozen (p:=⟨b,o,none⟩) h
end
def nth (bs:List UInt8) (i:Nat):UInt8:=bs.getD i 0
def w8 (bs:List UInt8) (at':Nat):Nat->BitVec 64
 |0=>0
 |i+1=>if at'+i<bs.length then w8 bs at' i <<< 8 ||| bT 64 (nth bs (at'+i)).toNat else w8 bs at' i <<< 8
theorem Nr(bs:List UInt8)(p i:Nat)(h:p+i<bs.length):w8 bs p (i+1)=w8 bs p i <<< 8 ||| bT 64 (nth bs (p+i)).toNat:=by rw[w8,if_pos h]
theorem F8(bs:List UInt8)(p i:Nat)(h: ¬p+i<bs.length):w8 bs p (i+1)=w8 bs p i <<< 8:=by rw[w8,if_neg h]
theorem Eu(x:BitVec 64)(b:Nat)(d:b<256):x <<< 8+bT 64 b=x <<< 8 ||| bT 64 b:=by
 apply BitVec.add_eq_or_of_and_eq_zero;apply BitVec.eq_of_getLsbD_eq;intro i hi;simp only[BitVec.getLsbD_and,BitVec.getLsbD_shiftLeft,BitVec.getLsbD_ofNat];by_cases h:i<8;·simp[h]
 ·have:b.testBit i=false:=Nat.testBit_lt_two_pow (aU d (Nat.pow_le_pow_right (n:=2) (i:=8) (by decide) (by omega)));simp[this]
def wX (bs:List UInt8):Nat:=(bs.length+7) / 8
def xE (bs:List UInt8) (j:Nat):BitVec 64:=w8 bs (8*j) 8
def jY (bs:List UInt8) (n:Nat):List (BitVec 64):=bT 64 bs.length::(eY n).map (xE bs)
def pq (bs:List UInt8):List (BitVec 64):=jY bs (wX bs)
theorem CP(bs:List UInt8)(n:Nat):jY bs (n+1)=jY bs n++ [xE bs n]:=by simp[jY,List.range_succ]
theorem Iu(bs:List UInt8)(n:Nat):(jY bs n).length=n+1:=by simp[jY]
theorem zA(bs:List UInt8){n:Nat}(h:n<=wX bs):jY bs n <+: pq bs:=by refine⟨((eY (wX bs-n)).map λi=>xE bs (n+i)),?_⟩;obtain⟨r,d⟩: ∃r,wX bs=n+r:=⟨wX bs-n,by omega⟩;unfold pq jY;rw[d,List.range_add,eX,List.map_map];simp[Function.comp_def]
def arw (k:K4) (m:BitVec 64) (l:List (BitVec 64)):BitVec 64:=l.foldl (fun m x=>Enc k (m ^^^ x)) m
theorem VF(k:K4)(m:BitVec 64)(l:List (BitVec 64))(x:BitVec 64):arw k m (l++ [x])=Enc k (arw k m l ^^^ x):=by simp[arw]
theorem uQ(k:K4)(m:BitVec 64)(l d:List (BitVec 64)):arw k m (l++d)=arw k (arw k m l) d:=by simp[arw]
theorem Yb{n:Nat}{a b c:BitVec n}:a ^^^ c=b ^^^ c<->a=b:=⟨λh=>by
 have:(a ^^^ c) ^^^ c=(b ^^^ c) ^^^ c:=by rw[h]
 simpa[BitVec.xor_assoc] using this,λh=>by rw[h]⟩
theorem abm{n:Nat}{a b c:BitVec n}:c ^^^ a=c ^^^ b<->a=b:=by rw[BitVec.xor_comm c a,BitVec.xor_comm c b];exact Yb
theorem Zh(k:K4)(l:List (BitVec 64)): ∀m d:BitVec 64,arw k m l=arw k d l<->m=d:=by induction l with|nil=>intro m d;rfl|cons x l j=>intro m d;show arw k (Enc k (m ^^^ x)) l=arw k (Enc k (d ^^^ x)) l<->_;rw[j,X9,Yb]
def Mac (k:K4) (bs:List UInt8):BitVec 64:=arw k 0 (pq bs)
def arp (k:K4) (x y:BitVec 32):K4:=let a:=Enc k (Jk (x,y));let b:=Enc k (~~~ a);⟨(arv a).1,(arv a).2,(arv b).1,(arv b).2⟩
theorem p7:(256:Nat) ^ 7=72057594037927936:=by simp
theorem VG(x:Nat)(h:x<72057594037927936):x*256 % 18446744073709551616=x*256:=dF (by omega)
theorem Ew(z:BitVec 64):(z <<< 8).toNat=z.toNat*256 % 18446744073709551616:=by rw[BitVec.toNat_shiftLeft,Nat.shiftLeft_eq]
theorem Ro(z:BitVec 64):(z >>> 8).toNat=z.toNat / 256:=by rw[BitVec.toNat_ushiftRight,Nat.shiftRight_eq_div_pow]
theorem CQ(z:BitVec 64)(d:z <<< 8 >>> 8=z):z.toNat<72057594037927936:=by have:=congrArg BitVec.toNat d;rw[Ro,Ew]at this;omega
theorem OX(x:BitVec 64)(a:Nat)(d:x.toNat<72057594037927936)(j:a<256):(x <<< 8+bT 64 a).toNat=x.toNat*256+a:=by rw[BitVec.toNat_add,Ew,VG _ d,BitVec.toNat_ofNat];omega
theorem Rq(a b:List UInt8)(H:a.length=b.length)(p:Nat): ∀n,(∀i,i<n->p+i<a.length->nth a (p+i)=nth b (p+i))->w8 a p n=w8 b p n
 |0,_=>rfl
 |n+1,h=>by
  have j:=Rq a b H p n (λi hi=>h i (by omega));by_cases d:p+n<a.length;·rw[Nr a p n d,Nr b p n (by omega),j,h n (by omega) d]
  ·rw[F8 a p n d,F8 b p n (by omega),j]
theorem aiO(x y:BitVec 64)(a b:Nat)(d:a<256)(j:b<256)(J:x <<< 8 >>> 8=x)(K:y <<< 8 >>> 8=y)(h:x <<< 8 ||| bT 64 a=y <<< 8 ||| bT 64 b):x=y/\a=b:=by rw[<-Eu x a d,<-Eu y b j]at h;have H:=congrArg BitVec.toNat h;rw[OX x a (CQ x J) d,OX y b (CQ y K) j]at H;exact⟨BitVec.eq_of_toNat_eq (by omega),by omega⟩
theorem Ru(bs:List UInt8)(p:Nat): ∀n,n<=8->(w8 bs p n).toNat<256 ^ n
 |0,_=>by simp[w8]
 |n+1,h=>by
  have K:=Ru bs p n (by omega);have J:256 ^ n<=72057594037927936:=by rw[<-p7];exact Nat.pow_le_pow_right (by decide) (by omega)
  have j:(w8 bs p n).toNat<72057594037927936:=by omega
  by_cases H:p+n<bs.length;·have d:(nth bs (p+n)).toNat<256:=(nth bs (p+n)).toNat_lt;rw[Nr bs p n H,<-Eu _ _ d,OX _ _ j d,Nat.pow_succ];generalize 256 ^ n=q at*;omega
  ·rw[F8 bs p n H,Ew,VG _ j,Nat.pow_succ];omega
theorem Yc(bs:List UInt8)(p n:Nat)(h:n<8):w8 bs p n <<< 8 >>> 8=w8 bs p n:=by
 apply BitVec.eq_of_toNat_eq;have j:=Ru bs p n (by omega);have d:256 ^ n<=72057594037927936:=by rw[<-p7];exact Nat.pow_le_pow_right (by decide) (by omega)
 rw[Ro,Ew,VG _ (by omega)];omega
theorem VH(a b:List UInt8)(J:a.length=b.length)(p:Nat): ∀n,n<=8->w8 a p n=w8 b p n-> ∀i,i<n->p+i<a.length->nth a (p+i)=nth b (p+i)
 |0,_,_=>λi hi=>absurd hi (by omega)
 |n+1,hn,h=>by
  have j:=Yc a p n (by omega);have H:=Yc b p n (by omega);intro i hi K;by_cases M:p+n<a.length;·rw[Nr a p n M,Nr b p n (by omega)]at h;obtain⟨d,N⟩:=aiO _ _ _ _ (nth a (p+n)).toNat_lt (nth b (p+n)).toNat_lt j H h;by_cases O:i=n;(·subst O;exact UInt8.toNat_inj.1 N);·exact VH a b J p n (by omega) d i (by omega) K
  ·rw[F8 a p n M,F8 b p n (by omega)]at h;(have d:w8 a p n=w8 b p n:=by rw[<-j,<-H,h]);exact VH a b J p n (by omega) d i (by omega) K
theorem VI(k:K4)(a b:List UInt8)(j:a.length=b.length)(d:Nat)(h: ∀i,i / 8≠d->nth a i=nth b i):Mac k a=Mac k b<->a=b:=by
 refine⟨λhm=>?_,λh=>by rw[h]⟩;have hn:wX a=wX b:=by unfold wX;rw[j]
 have N: ∀i,i≠d->xE a i=xE b i:=λi hi=>Rq a b j _ 8 (λt Y _=>h _ (by omega));by_cases V:d<wX a
 ·obtain⟨r,M⟩: ∃r,wX a=d+1+r:=⟨wX a-(d+1),by omega⟩;have cut: ∀c:List UInt8,wX c=d+1+r->pq c=jY c d++([xE c d]++(eY r).map λi=>xE c (d+1+i)):=by intro c hc;unfold pq jY;rw[hc,List.range_add,eX,List.range_succ,eX,List.map_map];simp[Function.comp_def]
  have e1:jY a d=jY b d:=by unfold jY;rw[j];congr 1;apply List.map_congr_left;intro i hi;exact N i (by have:=List.mem_range.1 hi;omega)
  have e2:((eY r).map λi=>xE a (d+1+i))=(eY r).map λi=>xE b (d+1+i):=by apply List.map_congr_left;intro i _;exact N _ (by omega)
  unfold Mac at hm;rw[cut a M,cut b (hn▸M),e1,e2,uQ,uQ,uQ,uQ,Zh]at hm;have O:xE a d=xE b d:=by have:Enc k (arw k 0 (jY b d) ^^^ xE a d)=Enc k (arw k 0 (jY b d) ^^^ xE b d):=hm;rw[X9,abm]at this;exact this
  apply List.ext_getElem j;intro i H J;have K:nth a i=nth b i:=by by_cases U:i / 8=d;(·(have hi:8*d+i % 8=i:=by omega);have:=VH a b j (8*d) 8 (by omega) O (i % 8) (by omega) (by omega);rwa [hi]at this);·exact h i U
  simpa[nth,bH,H,J] using K
 ·apply List.ext_getElem j;intro i H J;have K:nth a i=nth b i:=h i (by unfold wX at V;omega);simpa[nth,bH,H,J] using K
def Row (w:World) (A:Option Addr) (xs:List Value):Prop:=0<xs.length-> ∃b off,A=some ⟨b,off,none⟩/\b<w.heap.size/\ ∀j u,xs[j]? =some u->w.cell? ⟨b,off+j,none⟩=some u
section
variable {w w':World} {A:Option Addr} {xs:List Value}
theorem Row.nil(w:World)(A:Option Addr):Row w A []:=λh=>absurd h (by simp)
theorem Row.keep(h:Row w A xs)(M:w.heap.size<=w'.heap.size)(j: ∀b o,b<w.heap.size->w'.cell? ⟨b,o,none⟩=w.cell? ⟨b,o,none⟩):Row w' A xs:=λJ=>by obtain⟨b,off,e,d,hc⟩:=h J;exact⟨b,off,e,by omega,λK u H=>(j b _ d).trans (hc K u H)⟩
theorem Row.below(h:Row w A xs)(d:w w'):Row w' A xs:=h.keep d.size λb o j=>d.cell (p:=⟨b,o,none⟩) j
theorem Row.alloc(h:Row w A xs)(o:Obj):Row (w.alloc o) A xs:=h.below (gY.alloc ig o)
theorem Row.drewN(h:Row w A xs)(n:Nat):Row (w.drewN n) A xs:=h
theorem Row.drew(h:Row w A xs):Row w.drew A xs:=h
theorem Row.block{g:Nat}{t:TypeId}{cs:Array Value}(h:fK w g t cs):Row w g cs.toList:=λ_=>
  ⟨g,0,rfl,h.lt,λj u d=>by rw[aJ,h.cell];simpa using d⟩
theorem Row.own{base:Nat}{e:TypeId}{g n c:Nat}(h:w.ownsRow base e 1 (.slice g n c) n xs):Row w g xs:=λ_=>
  ⟨g, 0, rfl, (h.lt g rfl).2, λd u j=> by
    have H:d<n*1:=by
      have J:=h.1
      have K:d<xs.length:=by
        rcases eu d xs.length with h |h
        ·
          exact h
        ·
          rw[dQ h]at j;cases j
      omega
    rw[aJ,h.cellAt d H];exact j⟩
theorem Row.reads{n:Nat}(h:Row w A xs)(hn:xs.length=n):ari w w 1 A n xs:=⟨by omega,λJ=>by obtain⟨b,off,e,j,hc⟩:=h (by omega);refine⟨⟨b,off,none⟩,e,j,λd u H=>?_⟩;rw[show(⟨b,off,none⟩:Addr).add d=⟨b,off+d,none⟩ by unfold Addr.add;split <;> simp_all];exact hc d u H⟩
theorem Row.at_{k:Nat}{u:Value}(h:Row w A xs)(j:xs[k]? =some u): ∃b off,A=some ⟨b,off,none⟩/\b<w.heap.size/\w.cell? ⟨b,off+k,none⟩=some u:=by
 have J:0<xs.length:=by
  rcases Nat.eq_zero_or_pos xs.length with d |d;·rw[dw d]at j;simp at j
  ·exact d
 obtain⟨b,off,e,H,hc⟩:=h J;exact⟨b,off,e,H,hc k u j⟩
end
def aq6 (bs:List UInt8):List Value:=bs.map q8
theorem aq8(bs:List UInt8):(aq6 bs).length=bs.length:=by simp[aq6]
theorem arK(bs:List UInt8)(k:Nat)(h:k<bs.length):(aq6 bs)[k]? =some (q8 (nth bs k)):=by simp[aq6,nth,h,bH]
theorem vJ(a b:List UInt8):aq6 (a++b)=aq6 a++aq6 b:=by simp[aq6]
theorem tY(bs:List UInt8): ∀u∈aq6 bs,u.oneCell'=true:=by intro u d;simp only[aq6,List.mem_map]at d;obtain⟨x,_,rfl⟩:=d;rfl
structure aq2 (w:World) (A:Option Addr) (c:Nat) (bs:List UInt8):Prop where
  row:Row w A (aq6 bs)
  cap:bs.length<=c
  max:c<=maxLen
section
variable {w w':World} {A:Option Addr} {c:Nat} {bs:List UInt8}
theorem aq2.below(h:aq2 w A c bs)(d:w w'):aq2 w' A c bs:=⟨h.row.below d,h.cap,h.max⟩
theorem aq2.alloc(h:aq2 w A c bs)(o:Obj):aq2 (w.alloc o) A c bs:=⟨h.row.alloc o,h.cap,h.max⟩
theorem aq2.drewN(h:aq2 w A c bs)(n:Nat):aq2 (w.drewN n) A c bs:=⟨h.row,h.cap,h.max⟩
theorem aq2.nil(w:World):aq2 w none 0 []:=⟨Row.nil _ _,aW _,aV _⟩
theorem aq2.own{base g n:Nat}{e:TypeId}(h:w.ownsRow base e 1 (.slice g n c) n (aq6 bs)):aq2 w g c bs:=by
 refine⟨Row.own h,?_,?_⟩
 ·rcases h.2 with⟨d,_⟩ |⟨H,j,cur,d,_,_,K,_⟩;·simp at d
  ·simp only[dV]at d;have:=h.1;simp only[aq6,eU]at this;omega
 ·rcases h.2 with⟨d,_⟩ |⟨H,j,cur,d,_,_,_,J,_⟩;·simp at d
  ·simp only[dV]at d;omega
theorem aq2.at_{k:Nat}(h:aq2 w A c bs)(d:k<bs.length): ∃b off,A=some ⟨b,off,none⟩/\b<w.heap.size/\w.cell? ⟨b,off+k,none⟩=some (q8 (nth bs k)):=h.row.at_ (arK bs k d)
end
def jG (bs:List UInt8):Value->World->Prop:=fun v w=> ∃A c,v=.slice A bs.length c/\aq2 w A c bs
theorem jG.grow{bs:List UInt8}{v:Value}{w w':World}(h:jG bs v w)(d:w w'):jG bs v w':=by obtain⟨A,c,e,hB⟩:=h;exact⟨A,c,e,hB.below d⟩
def upd (u:Nat->Value) (i:Nat) (v:Value):Nat->Value:=fun j=>if j=i then v else u j
def aq9 (u:Nat->Value):List (Option Tmp)->Nat->Act->Act
 | [],_,a=>a
 |d::ds,i,a=>aq9 u ds (i+1) (a.put d (u i))
theorem Rw(u:Nat->Value)(d:Option Tmp)(v:Value): ∀(j:List (Option Tmp)) (i:Nat) (a:Act),(∀x,d=some x->some x∉j)->(aq9 u j i a).put d v=aq9 u j i (a.put d v)
 | [],_,_,_=>rfl
 |e::j,i,a,h=>by show(aq9 u j (i+1) (a.put e (u i))).put d v=aq9 u j (i+1) ((a.put d v).put e (u i));rw[Rw u d v j (i+1) _ (λx H hm=>h x H (List.mem_cons_of_mem _ hm)),Act.put_comm a v (u i) (x:=d) (y:=e) (λx H J=>h x H (by rw[J];exact List.mem_cons_self))]
theorem afp(a:Act)(d:Option Tmp)(v j:Value):(a.put d v).put d j=a.put d j:=by cases d with|none=>rfl|some x=>simp[aP]
theorem Jm(u J:Nat->Value): ∀(j:List (Option Tmp)) (i:Nat) (a:Act),(∀H,i<=H->u H=J H)->aq9 u j i a=aq9 J j i a
 | [],_,_,_=>rfl
 |d::j,i,a,h=>by show aq9 u j (i+1) (a.put d (u i))=aq9 J j (i+1) (a.put d (J i));rw[h i ig,Jm u J j (i+1) _ (λH K=>h H (by omega))]
def arl:List (Option Tmp)->Bool
 | []=>true
 |none::ds=>arl ds
 |some d::ds=> !ds.contains (some d)&&arl ds
theorem Rx(u:Nat->Value)(v:Value): ∀(d:List (Option Tmp)) (k i:Nat) (a:Act) (j:Option Tmp),arl d=true->d[i]? =some j->(aq9 u d k a).put j v=aq9 (upd u (k+i) v) d k a
 | [],_,_,_,_,_,h=>by simp at h
 |e::d,k,0,a,j,ha,h=>by
  simp only[eP,aO]at h;subst h;have hn: ∀x,e=some x->some x∉d:=by intro x J;subst J;simp only[arl,bM,Bool.not_eq_true',List.contains_eq_mem]at ha;simpa using ha.1
  show(aq9 u d (k+1) (a.put e (u k))).put e v=aq9 (upd u (k+0) v) d (k+1) (a.put e (upd u (k+0) v k));rw[Rw u e v d (k+1) _ hn,afp];have:upd u (k+0) v k=v:=by simp[upd]
  rw[this];exact Jm _ _ _ _ _ (λM K=>by simp[upd];omega)
 |e::d,k,i+1,a,j,ha,h=>by
  simp only[fB]at h;have H:arl d=true:=by cases e with|none=>exact ha|some x=>simp only[arl,bM]at ha;exact ha.2
  show(aq9 u d (k+1) (a.put e (u k))).put j v=aq9 (upd u (k+(i+1)) v) d (k+1) (a.put e (upd u (k+(i+1)) v k));rw[Rx u v d (k+1) i _ j H h];have e1:upd u (k+(i+1)) v k=u k:=by simp[upd]
  have e2:k+1+i=k+(i+1):=by omega
  rw[e1,e2]
theorem Ns(a:Act): ∀(j:List (Option Tmp)) (k:Nat) (u:Nat->Value),(∀i d x,j[i]? =some (some d)->a.tmps[d]? =some x->u (k+i)=x)->aq9 u j k a=a
 | [],_,_,_=>rfl
 |d::j,k,u,h=>by
  have K:a.put d (u k)=a:=by cases d with|none=>rfl|some x=>cases H:a.tmps[x]? with|none=>unfold aP;simp only;rw[Array.setIfInBounds_eq_of_size_le (by simpa using H)]|some y=>have:=h 0 x y rfl H;simp only[bI]at this;rw[this];unfold aP;simp only;congr 1;apply Array.ext (by simp);intro M N O;by_cases J:x=M;(·subst J;have:=(dM.1 H).2;rw[Array.getElem_setIfInBounds_self,this]);·rw[Array.getElem_setIfInBounds_ne _ J]
  show aq9 u j (k+1) (a.put d (u k))=a;rw[K];exact Ns a j (k+1) u (λi e x hi H=>by have:=h (i+1) e x (by simpa using hi) H;rwa [show k+(i+1)=k+1+i by omega]at this)
def Ey (Φ:Value->World->Prop):Prop:= ∀v w w',Φ v w->w w'->Φ v w'
def Is (c:Value):Value->World->Prop:=fun v _=>v=c
theorem Jo(c:Value):Ey (Is c):=λ_ _ _ h _=>h
def fH (jU:List (Value->World->Prop)) (es:List Edge) (u:Nat->Value) (w:World):Prop:= ∀e∈es,aC .any e=true-> ∀Φ:Value->World->Prop,jU[e.on]? =some Φ->Φ (u e.on) w
def jP (P:Program) (ops:Array Oper) (F:(Nat->Value)->Act) (T:World->World->Prop) (o:Oper) (Φ:Value->World->Prop) (Q:Exit->Act->World->Prop) (u:Nat->Value) (w:World):Prop:=if aF o (yielded ops (F u).tmps)=true then ∀K:Act->World->Prop,(∀v w',T w w'->Φ v w'->K ((F u).put o.dst v) w')->o.wp P (F u) w K Q else Φ undef w
def qR (P:Program) (ops:Array Oper) (F:(Nat->Value)->Act) (o:Oper) (Φ:Value->World->Prop) (Q:Exit->Act->World->Prop) (u:Nat->Value) (w:World):Prop:=jP P ops F (fun w w'=>w w') o Φ Q u w
def uO (ops:Array Oper):Bool:=(eY ops.size).all fun i=>((ops[i]?).map fun o=>o.after.all fun e=> !aC .any e || decide (e.on<i)).getD false
def uF (ops:Array Oper):Bool:=(eY (ops.size-1)).all fun i=>(eY ops.size).any fun j=>decide (i<j)&&((ops[j]?).map fun o=>o.after.any fun e=>decide (e.on=i)&&aC .any e).getD false
def mY (ops:Array Oper) (i j:Nat):Prop:= ∀o,ops[j]? =some o-> ∀e∈o.after,aC .any e=true->e.on≠i
def fO (jU:List ((Nat->Value)->World->Prop)) (es:List Edge) (u:Nat->Value) (w:World):Prop:= ∀e∈es,aC .any e=true-> ∀Φ:(Nat->Value)->World->Prop,jU[e.on]? =some Φ->Φ u w
def uS (P:Program) (ops:Array Oper) (F:(Nat->Value)->Act) (T:World->World->Prop) (i:Nat) (o:Oper) (Φ:(Nat->Value)->World->Prop) (Q:Exit->Act->World->Prop) (u:Nat->Value) (w:World):Prop:=if aF o (yielded ops (F u).tmps)=true then ∀K:Act->World->Prop,(∀v w',T w w'->Φ (upd u i v) w'->K ((F u).put o.dst v) w')->o.wp P (F u) w K Q else Φ (upd u i undef) w
def abn {D:Type} (L:Nat->Oper->List D->D->Prop) (E:List D->Prop):List Oper->Nat->List D->Prop
 | [],_,jU=>E jU
 |o::rest,i,jU=> ∃Φ,L i o jU Φ/\abn L E rest (i+1) (jU++ [Φ])
def abo {D:Type} (L:Nat->Oper->List D->D->Prop) (E:Oper->Nat->List D->Prop):List Oper->Nat->List D->Prop
 | [],_,_=>False
 | [o],i,jU=>E o i jU
 |o::o'::rest,i,jU=> ∃Φ,L i o jU Φ/\abo L E (o'::rest) (i+1) (jU++ [Φ])
theorem sG{D:Type}{L:Nat->Oper->List D->D->Prop}{E:List D->Prop}: ∀(l:List Oper) (i:Nat) (d:List D),d.length=i->abn L E l i d-> ∃H:List D,H.length=i+l.length/\(∀j,j<i->H[j]? =d[j]?)/\(∀j o,l[j]? =some o-> ∃Φ,H[i+j]? =some Φ/\L (i+j) o (H.take (i+j)) Φ)/\E H
 | [],i,d,hl,h=>⟨d,by simpa using hl,λ_ _=>rfl,λj o V=>by simp at V,h⟩
 |o::rest,i,d,hl,h=>by
  obtain⟨Φ,Z,Y⟩:=h;obtain⟨H,N,K,O,U⟩:=sG rest (i+1) (d++ [Φ]) (by simp[hl]) Y;have aa:H.take i=d:=by apply List.ext_getElem?;intro j;by_cases M:j<i;(·rw[dG M,K j (by omega),dP (by omega)]);·rw[dQ (by simp;omega),dQ (by omega)]
  refine⟨H,by simp at N ⊢;omega,λj M=>by rw[K j (by omega),dP (by omega)],?_,U⟩;intro j p J;match j,J with|0,J=>simp only[eP,aO]at J;subst J;exact⟨Φ,by rw[bI,K i (by omega)];simp[hl],by rw[bI,aa];exact Z⟩|j+1,J=>have:=O j p (by simpa using J);rwa [show i+1+j=i+(j+1) by omega]at this
theorem yC{D:Type}{L:Nat->Oper->List D->D->Prop}{E:Oper->Nat->List D->Prop}: ∀(l:List Oper) (i:Nat) (d:List D),abo L E l i d-> ∃r o,l=r++ [o]/\abn L (E o (i+r.length)) r i d
 | [],_,_,h=>h.elim
 | [o],_,_,h=>⟨[],o,rfl,h⟩
 |o::o'::rest,i,d,⟨Φ,h,hr⟩=>by obtain⟨r,p,e,j⟩:=yC (o'::rest) (i+1) _ hr;exact⟨o::r,p,by rw[e];rfl,Φ,h,by rw[bK,show i+(r.length+1)=i+1+r.length by omega];exact j⟩
section
variable {P:Program} {ops:Array Oper} {F:(Nat->Value)->Act} {w0:World} {Q:Exit->Act->World->Prop}
theorem Ry(h:uF ops=true){i:Nat}(hi:i<ops.size-1): ∃j o,i<j/\ops[j]? =some o/\ ∃e∈o.after,e.on=i/\aC .any e=true:=by unfold uF at h;rw[List.all_eq_true]at h;have K:=h i (by simpa using hi);rw[List.any_eq_true]at K;obtain⟨j,U,M⟩:=K;simp only[bM,decide_eq_true_eq]at M;obtain⟨N,d⟩:=M;cases J:ops[j]? with|none=>rw[J]at d;simp at d|some o=>rw[J]at d;simp only[eF,eG,Array.any_eq_true']at d;obtain⟨e,O,H⟩:=d;simp only[bM,decide_eq_true_eq]at H;exact⟨j,o,N,J,e,O,H.1,H.2⟩
theorem ar0{fuel:Nat}{j:Array Bool}{a:Act}{w:World}(d:Region.ready .any ops j= [])(h:Q .normal a w):wpAny P .any ops Q fuel j a w:=by cases fuel with|zero=>exact⟨d,h⟩|succ fuel=>exact⟨λ_=>h,λi hi=>by rw[d]at hi;cases hi⟩
theorem Du(hB:uO ops=true){i:Nat}{o:Oper}(j:ops[i]? =some o): ∀e∈o.after,aC .any e=true->e.on<i:=by intro e J H;unfold uO at hB;rw[List.all_eq_true]at hB;have K:i<ops.size:=(dM.1 j).1;have:=hB i (by simpa using K);rw[j]at this;simp only[eF,eG,Array.all_eq_true_iff_forall_mem]at this;have d:=this e J;rw[H]at d;simpa using d
theorem Jp(hB:uO ops=true)(d:Array Bool)(U:d.size=ops.size)(h:Region.ready .any ops d= []): ∀n i,i<n->i<ops.size->d.getD i false=true
 |0,_,h,_=>absurd h (by omega)
 |n+1,i,hi,j=>by
  have H:=Jp hB d U h n;by_cases O:i<n;·exact H i O j
  ·(obtain rfl:i=n:=by omega);cases M:d.getD i false with
   |false=>(have hm:i∈Region.ready .any ops d:=by rw[mem_ready];refine⟨?_,ops[i],cO j,λe N K=>?_⟩;(·(have J:i<d.size:=by omega);simpa[J] using M);·have:=Du hB (cO j) e N K;exact H e.on this (by omega));rw[h]at hm;cases hm
   |true=>rfl
theorem ar9(hB:uO ops=true)(G:World->World->Prop)(VJ: ∀a b c,G a b->G b c->G a c)(T:Nat->World->World->Prop)(VK: ∀i w w',T i w w'->G w w')(aa:Nat->World->Prop)(Ci: ∀i d w w',i≠d->mY ops i d->aa i w->T d w w'->aa i w')(m:Nat)(hm:m=ops.size\/m+1=ops.size/\uF ops=true)(Z:List ((Nat->Value)->World->Prop))(a7:Z.length=m)(hF: ∀i o u v,i<m->ops[i]? =some o->(F u).put o.dst v=F (upd u i v))(aE: ∀i d (Φ:(Nat->Value)->World->Prop),i≠d->i<m->mY ops i d->Z[d]? =some Φ-> ∀u w,Φ u w->Φ (upd u i undef) w/\ ∀v w',T i w w'->Φ (upd u i v) w')(hs: ∀i o,i<m->ops[i]? =some o-> ∃Φ,Z[i]? =some Φ/\ ∀u w,G w0 w->aa i w->fO (Z.take i) o.after.toList u w->uS P ops F (T i) i o Φ Q u w)(a1: ∀o,ops[m]? =some o-> ∀u w,G w0 w->aa m w->(∀(d:Nat) (Φ:(Nat->Value)->World->Prop),Z[d]? =some Φ->Φ u w)->aF o (yielded ops (F u).tmps)=true/\ ∀av:Act->World->Prop,(∀a w',Q .normal a w'->av a w')->o.wp P (F u) w av Q)(a4:m=ops.size-> ∀u w,G w0 w->(∀(d:Nat) (Φ:(Nat->Value)->World->Prop),Z[d]? =some Φ->Φ u w)->Q .normal (F u) w): ∀(fuel:Nat) (j:Array Bool) (u:Nat->Value) (w:World),j.size=ops.size->(m<ops.size->j.getD m false=false)->(∀i o,ops[i]? =some o->j.getD i false=true-> ∀e∈o.after,aC .any e=true->j.getD e.on false=true)->((eY ops.size).filter λi=> !j.getD i false).length<=fuel->G w0 w->(∀i,j.getD i false=false->aa i w)->(∀(d:Nat) (Φ:(Nat->Value)->World->Prop),j.getD d false=true->Z[d]? =some Φ->Φ u w)->wpAny P .any ops Q fuel j (F u) w:=by
 have ar: ∀ {d:Nat} {Φ:(Nat->Value)->World->Prop},Z[d]? =some Φ->d<m:=λh=>by rw[<-a7];exact(aX.1 h).1
 have aw: ∀(j:Array Bool) (u:Nat->Value) (w:World),j.size=ops.size->(m<ops.size->j.getD m false=false)->G w0 w->(∀(d:Nat) (Φ:(Nat->Value)->World->Prop),j.getD d false=true->Z[d]? =some Φ->Φ u w)->Region.ready .any ops j= []->Q .normal (F u) w:=by
  intro j u w ad h0 hb hv hr;have ae:=Jp hB j ad hr ops.size;rcases hm with hm |⟨hm,_⟩;·exact a4 hm u w hb λd Φ H=>hv d Φ (ae d (by have:=ar H;omega) (by have:=ar H;omega)) H
  ·have:=ae m (by omega) (by omega);rw[h0 (by omega)]at this;cases this
 intro fuel;induction fuel with
 |zero=>
  intro j u w ad h0 _ hf hb ai hv;have hr:Region.ready .any ops j= []:=by cases hq:Region.ready .any ops j with|nil=>rfl|cons i rs=>(have hm:i∈Region.ready .any ops j:=by rw[hq];exact List.mem_cons_self);rw[mem_ready]at hm;obtain⟨h1,o,Y,_⟩:=hm;have hi:i<ops.size:=(dM.1 Y).1;(have:i∈(eY ops.size).filter λi=> !j.getD i false:=by rw[List.mem_filter];refine⟨by simpa using hi,?_⟩;(have h2:i<j.size:=by omega);simpa[h2] using h1);rw[dw (by omega:((eY ops.size).filter λi=> !j.getD i false).length=0)]at this;cases this
  exact⟨hr,aw j u w ad h0 hb hv hr⟩
 |succ fuel ih=>
  intro j u w ad h0 ap hf hb ai hv;refine⟨aw j u w ad h0 hb hv,λi hi=>?_⟩;rw[mem_ready]at hi;obtain⟨h1,o,Y,ak⟩:=hi;have hi:i<ops.size:=(dM.1 Y).1;have aM:=Du hB Y;have ba:(j.setIfInBounds i true).size=ops.size:=by simpa using ad
  have h2:i<j.size:=by omega
  have am:j.getD i false=false:=by simpa[h2] using h1
  have au:(j.setIfInBounds i true).getD i false=true:=by simp[h2]
  have up: ∀k,j.getD k false=true->(j.setIfInBounds i true).getD k false=true:=by intro k O;by_cases ac:i=k;(·rw[<-ac];exact au);·rw[getD_set_ne false ac];exact O
  unfold wpOp;rw[Y];simp only;by_cases aD:i=m;·subst aD;obtain⟨hm,hA⟩:i+1=ops.size/\uF ops=true:=hm.resolve_left (by omega);(have ae: ∀k d,d<i->i-d<=k->j.getD d false=true:=by intro k;induction k with|zero=>intro d h1 h2;omega|succ k bc=>intro d H O;obtain⟨j',o',bf,J,e,V,af,N⟩:=Ry hA (i:=d) (by omega);have bd:j'<ops.size:=(dM.1 J).1;rw[<-af];by_cases aq:j'=i;(·subst aq;rw[Y]at J;injection J with J;subst J;exact ak e V N);·exact ap j' o' J (bc j' (by omega) (by omega)) e V N);obtain⟨hw,bb⟩:=a1 o Y u w hb (ai i am) λd Φ H=>hv d Φ (ae _ d (ar H) ig) H;rw[if_pos hw];refine .inl (bb _ λa w' hQ=>ar0 ?_ hQ);cases hr:Region.ready .any ops (j.setIfInBounds i true) with|nil=>rfl|cons d js=>exfalso;(have H:d∈Region.ready .any ops (j.setIfInBounds i true):=by rw[hr];exact List.mem_cons_self);rw[mem_ready]at H;obtain⟨q1,q2,q3,_⟩:=H;have bh:d<ops.size:=(dM.1 q3).1;(have h4:(j.setIfInBounds i true).getD d false=true:=by by_cases aq:i=d;(·rw[<-aq];exact au);·exact up d (ae _ d (by omega) ig));(have h3:d<(j.setIfInBounds i true).size:=by omega);rw[Array.getD_eq_getD_getElem?,cO h3]at h4 q1;simp only[eG]at h4 q1;rw[h4]at q1;cases q1
  ·(have al:i<m:=by omega);obtain⟨Φ,Ez,hl⟩:=hs i o al Y;(have ag:=hl u w hb (ai i am) λe V N M VL=>by(have ax:e∈o.after:=by simpa using V);rw[dG (aM e ax N)]at VL;exact hv e.on M (ak e ax N) VL);(have az: ∀d,j.getD d false=true->mY ops i d:=by intro d H o' J e V N af;have:=ap d o' J H e V N;rw[af,am]at this;cases this);(have aR:((eY ops.size).filter λd=> !(j.setIfInBounds i true).getD d false).length<=fuel:=by(have a9:((eY ops.size).filter λd=> !(j.setIfInBounds i true).getD d false)=(((eY ops.size).filter λd=> !j.getD d false).filter λd=>decide (d≠i)):=by rw[List.filter_filter];apply List.filter_congr;intro d H;by_cases K:i=d;(·subst K;simp[h2]);·have: ¬d=i:=λh=>K h.symm;simp[dR K,this]);have bi:(((eY ops.size).filter λd=> !j.getD d false).filter λd=>decide (d≠i)).length<((eY ops.size).filter λd=> !j.getD d false).length:=List.length_filter_lt_length_iff_exists.2 ⟨i,List.mem_filter.2 ⟨by simpa using hi,by rw[am];rfl⟩,by simp⟩;rw[a9];omega);(have next: ∀v w',G w0 w'->(∀k,k≠i->j.getD k false=false->aa k w')->(∀(d:Nat) (M:(Nat->Value)->World->Prop),d≠i->j.getD d false=true->Z[d]? =some M->M (upd u i v) w')->Φ (upd u i v) w'->wpAny P .any ops Q fuel (j.setIfInBounds i true) ((F u).put o.dst v) w':=by intro v w' aL a8 a5 an;rw[hF i o u v al Y];refine ih _ _ _ ba (λhm=>by rw[getD_set_ne false aD];exact h0 hm) ?_ aR aL ?_ ?_;(·intro d o' J H e V N;by_cases K:i=d;(·subst K;rw[Y]at J;injection J with J;subst J;exact up _ (ak e V N));·rw[getD_set_ne false K]at H;exact up _ (ap d o' J H e V N));(·intro k O;by_cases ac:i=k;(·rw[<-ac,au]at O;cases O);·rw[getD_set_ne false ac]at O;exact a8 k (λh=>ac h.symm) O);·intro d M H U;by_cases K:d=i;(·subst K;rw[Ez]at U;injection U with U;subst U;exact an);·rw[getD_set_ne false (λh=>K h.symm)]at H;exact a5 d M K H U);unfold uS at ag;by_cases hw:aF o (yielded ops (F u).tmps)=true;(·rw[if_pos hw]at ag ⊢;refine .inl (ag _ λv w' ht an=>next v w' (VJ _ _ _ hb (VK i _ _ ht)) (λk a6 O=>Ci k i _ _ a6 (λo' J e V N af=>by rw[Y]at J;injection J with J;subst J;have:=ak e V N;rw[af,O]at this;cases this) (ai k O) ht) (λd M K H U=>(aE i d M (λh=>K h.symm) al (az d H) U _ _ (hv d M H U)).2 _ _ ht) an));·rw[if_neg hw]at ag ⊢;exact next undef w hb (λk _ O=>ai k O) (λd M K H U=>(aE i d M (λh=>K h.symm) al (az d H) U _ _ (hv d M H U)).1) ag
theorem Jr{id:Nat}{l:List Oper}{a:Act}(G:World->World->Prop)(Z: ∀w:World,G w w.drew)(V: ∀a b c,G a b->G b c->G a c)(T:Nat->World->World->Prop)(Y: ∀i w w',T i w w'->G w w')(H:Nat->World->Prop)(aa: ∀i,H i w0.drew)(Ci: ∀i d w w',i≠d->mY l.toArray i d->H i w->T d w w'->H i w')(J:List (Option Tmp))(lX: ∀u,aq9 u J 0 a=F u)(ag:P.follows .mixedOrders=true)(hB:uO l.toArray=true)(hap:arl J=true)(m:Nat)(hm:m=l.length\/m+1=l.length/\uF l.toArray=true)(ac: ∀i o,i<m->l[i]? =some o->J[i]? =some o.dst)(j:List ((Nat->Value)->World->Prop))(af:j.length=m)(ai: ∀i d (Φ:(Nat->Value)->World->Prop),i≠d->i<m->mY l.toArray i d->j[d]? =some Φ-> ∀u w,Φ u w->Φ (upd u i undef) w/\ ∀v w',T i w w'->Φ (upd u i v) w')(hs: ∀i o,i<m->l[i]? =some o-> ∃Φ,j[i]? =some Φ/\ ∀u w,G w0 w->H i w->fO (j.take i) o.after.toList u w->uS P l.toArray F (T i) i o Φ Q u w)(ad: ∀o,l[m]? =some o-> ∀u w,G w0 w->H m w->(∀(d:Nat) (Φ:(Nat->Value)->World->Prop),j[d]? =some Φ->Φ u w)->aF o (yielded l.toArray (F u).tmps)=true/\ ∀N:Act->World->Prop,(∀a w',Q .normal a w'->N a w')->o.wp P (F u) w N Q)(ae:m=l.length-> ∀u w,G w0 w->(∀(d:Nat) (Φ:(Nat->Value)->World->Prop),j[d]? =some Φ->Φ u w)->Q .normal (F u) w):(Code.region id l.toArray true).wp P Q a w0:=by
 have ha:a=F (λi=>match J[i]? with |some (some O)=>a.tmps.getD O undef |_=>undef):=by rw[<-lX];symm;apply Ns;intro i O x hi hx;simp only[aJ,hi];simp[hx]
 have M: ∀i,(Array.replicate l.toArray.size false).getD i false=false:=λi=>by simp only[Array.getD_eq_getD_getElem?,Array.getElem?_replicate];split <;> rfl
 refine wp_region_any ag ?_;rw[ha];refine ar9 (w0:=w0) hB G V T Y H Ci m (by simpa using hm) j af ?_ ai (λi o hi K=>hs i o hi (by simpa using K)) (λo K=>ad o (by simpa using K)) (by simpa using ae) _ _ _ _ (by simp) (λ_=>M m) (λi o _ hi=>by rw[M i]at hi;cases hi) (aG (List.length_filter_le _ _) (by simp)) (Z _) (λi _=>aa i) (λd Φ U=>by rw[M d]at U;cases U);intro i o u v hi K;rw[<-lX u,<-lX (upd u i v)];have:=Rx u v J 0 i a o.dst hap (ac i o hi (by simpa using K));rwa [aJ]at this
theorem abp(u:Nat->Value)(i:Nat)(v:Value):upd u i v i=v:=by simp[upd]
theorem jH(u:Nat->Value){i d:Nat}(v:Value)(h:d≠i):upd u i v d=u d:=by simp[upd,h]
def gI (i:Nat) (Φ:Value->World->Prop):(Nat->Value)->World->Prop:=fun u w=>Φ (u i) w
theorem Js{T:World->World->Prop}{o:Oper}{i:Nat}{Φ:Value->World->Prop}{u:Nat->Value}{w:World}(h:jP P ops F T o Φ Q u w):uS P ops F T i o (gI i Φ) Q u w:=by unfold jP at h;unfold uS gI;simp only[abp];exact h
theorem yD{id:Nat}{l:List Oper}{a:Act}(G:World->World->Prop)(Zi: ∀w:World,G w w.drew)(VJ: ∀a b c,G a b->G b c->G a c)(T:Nat->World->World->Prop)(VK: ∀i w w',T i w w'->G w w')(J:Nat->World->Prop)(ad: ∀i,J i w0.drew)(Ci: ∀i d w w',i≠d->J i w->T d w w'->J i w')(N:List (Option Tmp))(lX: ∀u,aq9 u N 0 a=F u)(am:P.follows .mixedOrders=true)(hB:uO l.toArray=true)(hap:arl N=true)(m:Nat)(hm:m=l.length\/m+1=l.length/\uF l.toArray=true)(af: ∀i o,i<m->l[i]? =some o->N[i]? =some o.dst)(j:List (Value->World->Prop))(ak:j.length=m)(an: ∀i d (Φ:Value->World->Prop),i≠d->i<m->j[d]? =some Φ-> ∀v w w',Φ v w->T i w w'->Φ v w')(hs: ∀i o,i<m->l[i]? =some o-> ∃Φ,j[i]? =some Φ/\ ∀u w,G w0 w->J i w->fH (j.take i) o.after.toList u w->jP P l.toArray F (T i) o Φ Q u w)(ag: ∀o,l[m]? =some o-> ∀u w,G w0 w->J m w->(∀(d:Nat) (Φ:Value->World->Prop),j[d]? =some Φ->Φ (u d) w)->aF o (yielded l.toArray (F u).tmps)=true/\ ∀aa:Act->World->Prop,(∀a w',Q .normal a w'->aa a w')->o.wp P (F u) w aa Q)(ai:m=l.length-> ∀u w,G w0 w->(∀(d:Nat) (Φ:Value->World->Prop),j[d]? =some Φ->Φ (u d) w)->Q .normal (F u) w):(Code.region id l.toArray true).wp P Q a w0:=by
 have V: ∀ {d:Nat} {Φ:Value->World->Prop},j[d]? =some Φ->(j.mapIdx gI)[d]? =some (gI d Φ):=λh=>by rw[List.getElem?_mapIdx,h];rfl
 have ac: ∀ {u:Nat->Value} {w:World},(∀(d:Nat) (Φ:(Nat->Value)->World->Prop),(j.mapIdx gI)[d]? =some Φ->Φ u w)-> ∀(d:Nat) (Φ:Value->World->Prop),j[d]? =some Φ->Φ (u d) w:=λh d Φ H=>h d _ (V H);refine Jr G Zi VJ T VK J ad (λi d w w' O _=>Ci i d w w' O) N lX am hB hap m hm af (j.mapIdx gI) (by simpa using ak) ?_ ?_ (λo Y u w K Z hv=>ag o Y u w K Z (ac hv)) (λe u w K hv=>ai e u w K (ac hv))
 ·intro i d Φ O hi _ H u w U;rw[List.getElem?_mapIdx]at H;cases hq:j[d]? with
  |none=>rw[hq]at H;cases H
  |some ap=>rw[hq]at H;simp only[eF,aO]at H;subst H;unfold gI at U ⊢;simp only[jH u _ (λe=>O e.symm)];exact⟨U,λv w' ht=>an i d ap O hi hq _ _ _ U ht⟩
 ·intro i o hi Y;obtain⟨Φ,h1,h2⟩:=hs i o hi Y;refine⟨_,V h1,λu w K Z hw=>Js (h2 u w K Z λe he ae Vs M=>?_)⟩;refine hw e he ae (gI e.on Vs) ?_;have al:e.on<i:=by rcases eu e.on i with h |h;(·exact h);·rw[dQ (by simp;omega)]at M;cases M
  rw[dG al]at M ⊢;exact V M
theorem arX{l:List Oper}{m:Nat}: ∀i o,i<m->l[i]? =some o->(l.map (·.dst))[i]? =some o.dst:=λi o _ d=>by simp[d]
def Lex (P:Program) (ops:Array Oper) (F:(Nat->Value)->Act) (w0:World) (Q:Exit->Act->World->Prop):List Oper->Nat->List (Value->World->Prop)->Prop:=abn (fun _ o jU Φ=>Ey Φ/\ ∀u w,w0 w->fH jU o.after.toList u w->qR P ops F o Φ Q u w) (fun jU=> ∀u w,w0 w->(∀(i:Nat) (Φ:Value->World->Prop),jU[i]? =some Φ->Φ (u i) w)->Q .normal (F u) w)
theorem iM{id:Nat}{l:List Oper}{a:Act}(F:(Nat->Value)->Act)(lX: ∀u,aq9 u (l.map (·.dst)) 0 a=F u)(hm:P.follows .mixedOrders=true)(hB:uO l.toArray=true)(hap:arl (l.map (·.dst))=true)(h:Lex P l.toArray F w0 Q l 0 []):(Code.region id l.toArray true).wp P Q a w0:=by
 obtain⟨Y,d,_,j,N⟩:=sG l 0 [] rfl h;simp only[aJ]at d j;refine yD (λa b=>a b) (λ_=>⟨rfl,rfl,rfl,aW _,λ_ _=>rfl⟩) (λ_ _ _=>gZ) (λ_ a b=>a b) (λ_ _ _ h=>h) (λ_ _=>True) (λ_=>trivial) (λ_ _ _ _ _ _ _=>trivial) _ lX hm hB hap _ (.inl rfl) arX Y d ?_ (λi o _ H=>by obtain⟨Φ,a,b⟩:=j i o H;exact⟨Φ,a,λu w O _=>b.2 u w O⟩) (λo H=>by simp at H) λ_=>N;intro i J Φ _ _ K v w w' M V;have U:J<l.length:=by rw[<-d];exact(aX.1 K).1
 obtain⟨Z,q1,q2,_⟩:=j J l[J] (by simp[U]);rw[K]at q1;injection q1 with q1;subst q1;exact q2 _ _ _ M V
theorem Lex.is{o:Oper}{rest:List Oper}{i:Nat}{d:List (Value->World->Prop)}{c:Value}(h: ∀u w,w0 w->fH d o.after.toList u w->qR P ops F o (Is c) Q u w)(r:Lex P ops F w0 Q rest (i+1) (d++ [Is c])):Lex P ops F w0 Q (o::rest) i d:=⟨Is c,⟨Jo c,h⟩,r⟩
theorem Lex.word{o:Oper}{rest:List Oper}{i:Nat}{d:List (Value->World->Prop)}(Φ:Value->World->Prop)(j:Ey Φ)(h: ∀u w,w0 w->fH d o.after.toList u w->qR P ops F o Φ Q u w)(r:Lex P ops F w0 Q rest (i+1) (d++ [Φ])):Lex P ops F w0 Q (o::rest) i d:=⟨Φ,⟨j,h⟩,r⟩
theorem Lex.nil{i:Nat}{j:List (Value->World->Prop)}(h: ∀u w,w0 w->(∀(d:Nat) (Φ:Value->World->Prop),j[d]? =some Φ->Φ (u d) w)->Q .normal (F u) w):Lex P ops F w0 Q [] i j:=h
theorem fF{o:Oper}{Φ:Value->World->Prop}{u:Nat->Value}{w:World}(j:aF o (yielded ops (F u).tmps)=true)(h: ∀d:Act->World->Prop,(∀v w',w w'->Φ v w'->d ((F u).put o.dst v) w')->o.wp P (F u) w d Q):qR P ops F o Φ Q u w:=by unfold qR jP;rw[if_pos j];exact h
theorem wG{o:Oper}{Φ:Value->World->Prop}{u:Nat->Value}{w:World}(d:aF o (yielded ops (F u).tmps)=false)(h:Φ undef w):qR P ops F o Φ Q u w:=by unfold qR jP;rw[if_neg (by rw[d];exact Bool.false_ne_true)];exact h
end
section
variable {P:Program} {ops:Array Oper} {F:(Nat->Value)->Act} {w0:World} {Q:Exit->Act->World->Prop}
def lI (P:Program) (ops:Array Oper) (F:(Nat->Value)->Act) (w0:World) (Q:Exit->Act->World->Prop):List Oper->Nat->List (Value->World->Prop)->Prop:=abo (fun _ o jU Φ=>Ey Φ/\ ∀u w,w0 w->fH jU o.after.toList u w->qR P ops F o Φ Q u w) (fun o _ jU=> ∀u w,w0 w->(∀(i:Nat) (Φ:Value->World->Prop),jU[i]? =some Φ->Φ (u i) w)->aF o (yielded ops (F u).tmps)=true/\ ∀K:Act->World->Prop,(∀a w',Q .normal a w'->K a w')->o.wp P (F u) w K Q)
theorem mZ{id:Nat}{l:List Oper}{a:Act}(F:(Nat->Value)->Act)(lX: ∀u,aq9 u (l.map (·.dst)) 0 a=F u)(hm:P.follows .mixedOrders=true)(hB:uO l.toArray=true)(hA:uF l.toArray=true)(hap:arl (l.map (·.dst))=true)(h:lI P l.toArray F w0 Q l 0 []):(Code.region id l.toArray true).wp P Q a w0:=by
 obtain⟨r,p,e,h⟩:=yC l 0 [] h;obtain⟨vw,j,_,H,O⟩:=sG r 0 [] rfl h;simp only[aJ]at j H;have V:r.length+1=l.length:=by rw[e];simp
 have Y: ∀i,i<r.length->l[i]? =r[i]? :=λi hi=>by rw[e,dP hi]
 refine yD (λa b=>a b) (λ_=>⟨rfl,rfl,rfl,aW _,λ_ _=>rfl⟩) (λ_ _ _=>gZ) (λ_ a b=>a b) (λ_ _ _ h=>h) (λ_ _=>True) (λ_=>trivial) (λ_ _ _ _ _ _ _=>trivial) _ lX hm hB hap _ (.inr ⟨V,hA⟩) arX vw j ?_ (λi o hi d=>by obtain⟨Φ,a,b⟩:=H i o (by rw[<-Y i hi];exact d);exact⟨Φ,a,λu w J _=>b.2 u w J⟩) (λo d u w J _=>?_) (λe=>by omega)
 ·intro i K Φ _ _ M v w w' N Z;have U:K<r.length:=by rw[<-j];exact(aX.1 M).1
  obtain⟨Vs,q1,q2,_⟩:=H K r[K] (by simp[U]);rw[M]at q1;injection q1 with q1;subst q1;exact q2 _ _ _ N Z
 ·rw[e]at d;simp at d;subst d;exact O u w J
theorem lI.is{o j:Oper}{rest:List Oper}{i:Nat}{d:List (Value->World->Prop)}{c:Value}(h: ∀u w,w0 w->fH d o.after.toList u w->qR P ops F o (Is c) Q u w)(r:lI P ops F w0 Q (j::rest) (i+1) (d++ [Is c])):lI P ops F w0 Q (o::j::rest) i d:=⟨Is c,⟨Jo c,h⟩,r⟩
theorem lI.word{o j:Oper}{rest:List Oper}{i:Nat}{d:List (Value->World->Prop)}(Φ:Value->World->Prop)(H:Ey Φ)(h: ∀u w,w0 w->fH d o.after.toList u w->qR P ops F o Φ Q u w)(r:lI P ops F w0 Q (j::rest) (i+1) (d++ [Φ])):lI P ops F w0 Q (o::j::rest) i d:=⟨Φ,⟨H,h⟩,r⟩
theorem lI.last{o:Oper}{i:Nat}{H:List (Value->World->Prop)}(h: ∀u w,w0 w->(∀(j:Nat) (Φ:Value->World->Prop),H[j]? =some Φ->Φ (u j) w)->aF o (yielded ops (F u).tmps)=true/\ ∀d:Act->World->Prop,(∀a w',Q .normal a w'->d a w')->o.wp P (F u) w d Q):lI P ops F w0 Q [o] i H:=h
end
theorem qU{P:Program}(w:World)(g i:Nat)(t ty:TypeId)(old:Array Value)(v:Value)(H:fK w g t old)(hi:i<old.size)(J:(P.info? ty).map (·.size)=some 1)(j:v.oneCell'=true):(storeVar ty ⟨g,i,none⟩ v).run P w=.ok () (w.setCell ⟨g,i,none⟩ v):=by
 have hc:v.cells= #[v]:=by cases v <;> first |rfl |cases j
 have M:w.cell? ⟨g,i,none⟩=some old[i]:=by rw[H.cell];simp[hi]
 have N:=H.frozen i;cases d:P.info? ty with
 |none=>simp[d]at J
 |some U=>
  have O:U.size=1:=by simpa[d] using J
  have K:Addr.add ⟨g,i,none⟩ 0=⟨g,i,none⟩:=by simp[Addr.add]
  simp[storeVar,sizeOf,typeInfo,d,hc,O,storeCells,run_store,j,M,N,K]
theorem jZ{P:Program}{ops:Array Oper}{rest:List Oper}{o:Oper}{a:Act}{w:World}{Q:Exit->Act->World->Prop}(J:o.guard=none)(ty:TypeId)(x y:Operand)(M:o.op=.store ty x y)(g:Nat)(cells:Array Value)(O:a.eval x=.pointer g)(U:a.eval y=cells)(t:TypeId)(old:Array Value)(d:fK w g t old)(hi:(P.info? ty).map (·.size)=some cells.size)(N:old.size=cells.size)(j:cells.all (·.oneCell')=true)(B:Nat)(w0:World)(H:Below B w0 w)(hB:B<=g)(h: ∀W:World,fK W g t cells->Below B w0 W->W.heap.size=w.heap.size->(∀k,k≠g->W.heap[k]? =w.heap[k]?)->wpList P ops Q rest (a.put o.dst undef) W):wpList P ops Q (o::rest) a w:=wpList_store_row J ty x y M g cells O U t old d hi N j (h _ (fK.row d _) (jk H hB _) (by simp) λk K=>setRow_other w g k cells K)
section
variable {P:Program} (w:World) (src dst:TypeId)
theorem Rz(a:BitVec 64)(h:a.toNat<9223372036854775808)(H:(P.underlying src).isSome=true)(d:P.underlying dst=some (.int .i64)):(convert src dst (q64 a)).run P w=.ok a.toNat w:=by
 obtain⟨J,j⟩:=Option.isSome_iff_exists.mp H;have e:IntKind.i64.wrap (a.toNat:Int)=(a.toNat:Int):=by rw[IntKind.wrap_i64];omega
 simp[q64,convert,run_underlying j,run_underlying d,Conv.intToInt,e]
end
abbrev wE:=List (Nat × Option Nat)
structure Stp (S:wE) (w w':World):Prop where
  os:w'.os=w.os
  tape:w'.tape=w.tape
  output:w'.output=w.output
  size:w.heap.size<=w'.heap.size
  block: ∀k,k<w.heap.size->(∀o,(k,o)∉S)->w'.heap[k]? =w.heap[k]?
  shape: ∀k t cs,fK w k t cs-> ∃cs',fK w' k t cs'/\cs'.size=cs.size/\((k,none)∉S-> ∀i,(k,some i)∉S->cs'[i]? =cs[i]?)
theorem Stp.refl(S:wE)(w:World):Stp S w w:=⟨rfl,rfl,rfl,aW _,λ_ _ _=>rfl,λ_ _ cs h=>⟨cs,h,rfl,λ_ _ _=>rfl⟩⟩
theorem Stp.drew(S:wE)(w:World):Stp S w w.drew:=⟨rfl,rfl,rfl,aW _,λ_ _ _=>rfl,λ_ _ cs h=>⟨cs,h,rfl,λ_ _ _=>rfl⟩⟩
theorem Stp.trans{S:wE}{a b c:World}(h:Stp S a b)(k:Stp S b c):Stp S a c:=⟨k.os.trans h.os,k.tape.trans h.tape,k.output.trans h.output,aG h.size k.size,λi hi hn=>(k.block i (aU hi h.size) hn).trans (h.block i hi hn),λi t cs M=>by obtain⟨c1,H,J,K⟩:=h.shape i t cs M;obtain⟨c2,k1,k2,k3⟩:=k.shape i t c1 H;exact⟨c2,k1,k2.trans J,λhn j d=>(k3 hn j d).trans (K hn j d)⟩⟩
theorem Stp.mono{S S':wE}{w w':World}(h:Stp S w w')(d: ∀x,x∈S->x∈S'):Stp S' w w':=⟨h.os,h.tape,h.output,h.size,λk N hn=>h.block k N (λo O=>hn o (d _ O)),λk t cs M=>by obtain⟨c1,H,J,K⟩:=h.shape k t cs M;exact⟨c1,H,J,λhn i hi=>K (λj=>hn (d _ j)) i (λj=>hi (d _ j))⟩⟩
theorem Stp.of_below{w w':World}(h:w w')(S:wE):Stp S w w':=⟨h.os,h.tape,h.output,h.size,λk j _=>h.block k j,λ_ _ cs d=>⟨cs,d.below h d.lt,rfl,λ_ _ _=>rfl⟩⟩
theorem Stp.cell{w:World}(g i:Nat)(v:Value):Stp [(g,some i)] w (w.setCell ⟨g,i,none⟩ v):=by
 refine⟨rfl,rfl,rfl,by simp[dD],λk _ hn=>aN w _ v k (λe=>hn (some i) (by simp at e;simp[e])),λk t cs d=>?_⟩;by_cases j:k=g;·subst j;exact⟨_,d.iV i v,by simp,λ_ J H=>by have:i≠J:=λe=>H (by simp[e]);simp[dR this]⟩
 ·exact⟨cs,d.far (p:=⟨g,i,none⟩) j v,rfl,λ_ _ _=>rfl⟩
theorem Stp.row{w:World}(g:Nat)(t:TypeId)(old cs:Array Value)(j:fK w g t old)(J:old.size=cs.size):Stp [(g,none)] w (w.setRow g cs):=by
 refine⟨rfl,rfl,rfl,by simp,λk _ hn=>setRow_other w g k cs (λe=>hn none (by simp[e])),λk K c0 d=>?_⟩;by_cases H:k=g
 ·subst H;have:K=t/\c0=old:=by unfold fK at j d;rw[j]at d;simp at d;exact⟨d.2.symm,d.1.symm⟩
  obtain⟨rfl,rfl⟩:=this;exact⟨cs,j.row cs,J.symm,λhn=>absurd (by simp) hn⟩
 ·exact⟨c0,d.OW H cs,rfl,λ_ _ _=>rfl⟩
theorem Stp.blk{S:wE}{w w':World}(h:Stp S w w'){g:Nat}{t:TypeId}{cs:Array Value}(d:fK w g t cs)(hn: ∀o,(g,o)∉S):fK w' g t cs:=(h.block g d.lt hn).trans d
def uG (g n i:Nat) (t:TypeId) (v:Value):Value->World->Prop:=fun _ w=> ∃cs,fK w g t cs/\cs.size=n/\cs[i]? =some v
theorem uG.keep{S:wE}{w w':World}{g n i:Nat}{t:TypeId}{v x:Value}(h:uG g n i t v x w)(J:Stp S w w')(d:(g,none)∉S)(j:(g,some i)∉S):uG g n i t v x w':=by obtain⟨cs,H,hn,hi⟩:=h;obtain⟨c2,k1,k2,k3⟩:=J.shape g t cs H;exact⟨c2,k1,k2.trans hn,(k3 d i j).trans hi⟩
theorem Stp.below{S:wE}{w w':World}{B:Nat}(h:Stp S w w')(hB:B<=w.heap.size)(d: ∀k o,(k,o)∈S->B<=k):Below B w w':=⟨h.os,h.tape,h.output,h.size,λk H=>h.block k (by omega) (λo j=>by have:=d k o j;omega)⟩
def qy (x y:Nat × Option Nat):Prop:=x.1≠y.1\/ ∃i j,x.2=some i/\y.2=some j/\i≠j
theorem qy.symm{x y:Nat × Option Nat}(h:qy x y):qy y x:=by
 rcases h with h |⟨i,J,d,j,H⟩;·exact .inl (λe=>h e.symm)
 ·exact .inr ⟨J,i,j,d,λe=>H e.symm⟩
structure W2 where
  Φ:Value->World->Prop
  pl:Option (Nat × Option Nat)
def W2.ok (S:wE) (x:W2):Prop:=match x.pl with
 |none=> ∀v w w',x.Φ v w->Stp S w w'->x.Φ v w'
 |some p=>p∈S/\ ∀S' v w w',(∀q,q∈S'->qy q p)->x.Φ v w->Stp S' w w'->x.Φ v w'
def W2.foot (x:W2):wE:=match x.pl with
 |none=> []
 |some p=> [p]
def W2.fit (x y:W2):Prop:= ∀p,x.pl=some p-> ∀q,y.pl=some q->qy p q
section
variable {P:Program} {ops:Array Oper} {F:(Nat->Value)->Act} {w0:World} {Q:Exit->Act->World->Prop} {S:wE}
def jI (P:Program) (ops:Array Oper) (F:(Nat->Value)->Act) (S:wE) (w0:World) (Q:Exit->Act->World->Prop):List Oper->Nat->List W2->Prop:=abn (fun _ o Xs x=>x.ok S/\ ∀u w,Stp S w0 w->fH (Xs.map (·.Φ)) o.after.toList u w->jP P ops F (Stp x.foot) o x.Φ Q u w) (fun Xs=>Xs.Pairwise W2.fit/\ ∀u w,Stp S w0 w->(∀(i:Nat) (x:W2),Xs[i]? =some x->x.Φ (u i) w)->Q .normal (F u) w)
theorem jJ{id:Nat}{l:List Oper}{a:Act}(S:wE)(F:(Nat->Value)->Act)(lX: ∀u,aq9 u (l.map (·.dst)) 0 a=F u)(hm:P.follows .mixedOrders=true)(hB:uO l.toArray=true)(hap:arl (l.map (·.dst))=true)(h:jI P l.toArray F S w0 Q l 0 []):(Code.region id l.toArray true).wp P Q a w0:=by
 obtain⟨H,h1,_,Y,h4,h5⟩:=sG l 0 [] rfl h;simp only[aJ]at h1 Y;have ae: ∀x,x∈H->x.ok S:=λx d=>by
  obtain⟨i,hi⟩:=List.getElem?_of_mem d;have ai:i<l.length:=by rw[<-h1];exact(aX.1 hi).1
  obtain⟨y,q1,q2,_⟩:=Y i l[i] (by simp[ai]);rw[hi]at q1;injection q1 with q1;exact q1▸q2
 have ak:H.length=l.length:=by omega
 have ad: ∀x,x∈H-> ∀p,p∈x.foot->p∈S:=by
  intro x d p j;have:=ae x d;unfold W2.ok at this;unfold W2.foot at j;cases af:x.pl with
  |none=>rw[af]at j;cases j
  |some q=>rw[af]at j this;simp at j;subst j;exact this.1
 have ag: ∀(i K:Nat) (x y:W2),i≠K->H[i]? =some x->H[K]? =some y->W2.fit x y:=by
  intro i K x y aa d O;obtain⟨hi,rfl⟩:=aX.1 d;obtain⟨M,rfl⟩:=aX.1 O;rcases Nat.lt_or_gt_of_ne aa with g |g;·exact List.pairwise_iff_getElem.1 h4 i K hi M g
  ·intro p j q N;exact(List.pairwise_iff_getElem.1 h4 K i M hi g q N p j).symm
 refine yD (Stp S) (Stp.drew S) (λ_ _ _=>Stp.trans) (λi w w'=>match H[i]? with |some x=>Stp x.foot w w' |none=>w'=w) ?_ (λ_ _=>True) (λ_=>trivial) (λ_ _ _ _ _ _ _=>trivial) _ lX hm hB hap _ (.inl rfl) arX (H.map (·.Φ)) (by simp;omega) ?_ ?_ (λo ho=>by simp at ho) λ_ u w Z hv=>h5 u w Z (λK x d=>hv K x.Φ (by simp[d]));·intro i w w' J;cases d:H[i]? with|none=>rw[d]at J;subst J;exact Stp.refl _ _|some x=>rw[d]at J;exact J.mono (ad x (bP d))
 ·intro i K Φ aa _ M v w w' V J;rw[bW]at M;cases O:H[K]? with
  |none=>rw[O]at M;cases M
  |some y=>
   rw[O]at M;simp only[eF,aO]at M;subst M;cases d:H[i]? with
   |none=>rw[d]at J;subst J;exact V
   |some x=>
    rw[d]at J;have U:=ae y (bP O);unfold W2.ok at U;cases j:y.pl with
    |none=>rw[j]at U;exact U v w w' V (J.mono (ad x (bP d)))
    |some p=>
     rw[j]at U;refine U.2 x.foot v w w' ?_ V J;intro q N;unfold W2.foot at N;cases ac:x.pl with
     |none=>rw[ac]at N;cases N
     |some q'=>rw[ac]at N;simp at N;subst N;exact ag i K x y aa d O _ ac _ j
 ·intro i o _ ho;obtain⟨x,a1,_,a2⟩:=Y i o ho;refine⟨x.Φ,by simp[a1],λu w Z _ hw=>?_⟩;have e:(λw w'=>match H[i]? with |some x=>Stp x.foot w w' |none=>w'=w)=Stp x.foot:=by funext w w';rw[a1]
  rw[e];exact a2 u w Z (by rw[List.map_take];exact hw)
theorem jI.word{o:Oper}{rest:List Oper}{i:Nat}{d:List W2}(Φ:Value->World->Prop)(j: ∀v w w',Φ v w->Stp S w w'->Φ v w')(h: ∀u w,Stp S w0 w->fH (d.map (·.Φ)) o.after.toList u w->jP P ops F (Stp []) o Φ Q u w)(r:jI P ops F S w0 Q rest (i+1) (d++ [⟨Φ,none⟩])):jI P ops F S w0 Q (o::rest) i d:=⟨⟨Φ,none⟩,⟨j,h⟩,r⟩
theorem jI.is{o:Oper}{rest:List Oper}{i:Nat}{d:List W2}{c:Value}(h: ∀u w,Stp S w0 w->fH (d.map (·.Φ)) o.after.toList u w->jP P ops F (Stp []) o (Is c) Q u w)(r:jI P ops F S w0 Q rest (i+1) (d++ [⟨Is c,none⟩])):jI P ops F S w0 Q (o::rest) i d:=⟨⟨Is c,none⟩,⟨λ_ _ _ h _=>h,h⟩,r⟩
theorem jI.row{o:Oper}{rest:List Oper}{i:Nat}{H:List W2}(g:Nat)(t:TypeId)(cs cells:Array Value)(U:(g,none)∈S)(M:fK w0 g t cs)(K:cs.size=cells.size)(ty:TypeId)(x y:Operand)(Z:o.op=.store ty x y)(hi:(P.info? ty).map (·.size)=some cells.size)(N:cells.all (·.oneCell')=true)(h: ∀u w,Stp S w0 w->fH (H.map (·.Φ)) o.after.toList u w->aF o (yielded ops (F u).tmps)=true/\(F u).eval x=.pointer (some ⟨g,0,none⟩)/\(F u).eval y=.agg cells)(r:jI P ops F S w0 Q rest (i+1) (H++ [⟨λ_ w=>fK w g t cells,some (g,none)⟩])):jI P ops F S w0 Q (o::rest) i H:=by
 refine⟨⟨λ_ w=>fK w g t cells,some (g,none)⟩,⟨⟨U,?_⟩,?_⟩,r⟩
 ·intro S' v w w' hap V j;refine j.blk V λk d=>?_;rcases hap _ d with a |⟨i,ac,_,a2,_⟩;·exact a rfl
  ·cases a2
 ·intro u w d Y;obtain⟨hw,hx,hy⟩:=h u w d Y;obtain⟨old,J,j,_⟩:=d.shape g t cs M;show jP P ops F (Stp [(g,none)]) o _ Q u w;unfold jP;rw[if_pos hw];intro aa O;exact wp_store_row ty x y Z g cells hx hy t old J hi (j.trans K) N (O undef _ (Stp.row g t old cells J (j.trans K)) (fK.row J _))
theorem jI.an9{o:Oper}{rest:List Oper}{i:Nat}{J:List W2}(g:Nat)(t:TypeId)(cs:Array Value)(R:Array Value->Prop)(Y:(g,none)∈S)(N:fK w0 g t cs)(ty:TypeId)(x y:Operand)(ho:o.op=.store ty x y)(V: ∀cells,R cells->cs.size=cells.size/\(P.info? ty).map (·.size)=some cells.size/\cells.all (·.oneCell')=true)(h: ∀u w,Stp S w0 w->fH (J.map (·.Φ)) o.after.toList u w->aF o (yielded ops (F u).tmps)=true/\(F u).eval x=.pointer (some ⟨g,0,none⟩)/\ ∃cells,R cells/\(F u).eval y=.agg cells)(r:jI P ops F S w0 Q rest (i+1) (J++ [⟨λ_ w=> ∃cells,R cells/\fK w g t cells,some (g,none)⟩])):jI P ops F S w0 Q (o::rest) i J:=by
 refine⟨⟨λ_ w=> ∃cells,R cells/\fK w g t cells,some (g,none)⟩,⟨⟨Y,?_⟩,?_⟩,r⟩
 ·rintro S' v w w' hap⟨cells,j,Z⟩ H;refine⟨cells,j,H.blk Z λk d=>?_⟩;rcases hap _ d with a |⟨i,ac,_,a2,_⟩;·exact a rfl
  ·cases a2
 ·intro u w d hd;obtain⟨hw,hx,cells,j,hy⟩:=h u w d hd;obtain⟨M,hi,O⟩:=V cells j;obtain⟨old,K,H,_⟩:=d.shape g t cs N;show jP P ops F (Stp [(g,none)]) o _ Q u w;unfold jP;rw[if_pos hw];intro aa U;exact wp_store_row ty x y ho g cells hx hy t old K hi (H.trans M) O (U undef _ (Stp.row g t old cells K (H.trans M)) ⟨cells,j,fK.row K _⟩)
theorem abq{S:wE}{w W:World}{g n:Nat}{t:TypeId}{cs:Array Value}(K:Stp S w W)(H:fK w g t cs)(new:Array Value)(hn:new.size=cs.size)(M:(g,none)∉S)(h: ∀i,i<new.size->(new[i]? =cs[i]? /\(g,some i)∉S)\/ ∃v,new[i]? =some v/\uG g n i t v undef W):fK W g t new:=by
 obtain⟨cs',d,N,J⟩:=K.shape g t cs H;have:cs'=new:=by
  apply Array.ext_getElem?;intro i;by_cases hi:i<new.size;·rcases h i hi with⟨a,b⟩ |⟨v,a,j,b,_,c⟩;(·rw[J M i b,a]);·(have e:j=cs':=by unfold fK at b d;rw[d]at b;simp at b;exact b.symm);rw[a,<-e,c]
  ·rw[dI (by omega),dI (by omega)]
 rw[<-this];exact d
theorem jI.cell{o:Oper}{rest:List Oper}{i:Nat}{H:List W2}(g n d:Nat)(t:TypeId)(cs:Array Value)(v:Value)(V:(g,some d)∈S)(N:fK w0 g t cs)(hn:cs.size=n)(hj:d<n)(ty:TypeId)(x y:Operand)(ho:o.op=.store ty x y)(hi:(P.info? ty).map (·.size)=some 1)(O:v.oneCell'=true)(h: ∀u w,Stp S w0 w->fH (H.map (·.Φ)) o.after.toList u w->aF o (yielded ops (F u).tmps)=true/\(F u).eval x=.pointer (some ⟨g,d,none⟩)/\(F u).eval y=v)(r:jI P ops F S w0 Q rest (i+1) (H++ [⟨uG g n d t v,some (g,some d)⟩])):jI P ops F S w0 Q (o::rest) i H:=by
 refine⟨⟨uG g n d t v,some (g,some d)⟩,⟨⟨V,?_⟩,?_⟩,r⟩
 ·intro S' x w w' hap Y M;refine uG.keep (x:=x) Y M ?_ ?_;·intro hm;rcases hap _ hm with a |⟨_,_,j,_,_⟩;(·exact a rfl);·cases j
  ·intro hm;rcases hap _ hm with a |⟨_,_,j,a2,a3⟩;(·exact a rfl);·injection j with j;injection a2 with a2;exact a3 (j.symm.trans a2)
 ·intro u w K Z;obtain⟨hw,hx,hy⟩:=h u w K Z;obtain⟨old,J,M,_⟩:=K.shape g t cs N;show jP P ops F (Stp [(g,some d)]) o _ Q u w;unfold jP;rw[if_pos hw];intro ac U;have aa:=qU (P:=P) w g d t ty old v J (by omega) hi O;unfold Oper.wp execOp;simp only[ho,hx,hy,Instr.storeAt,Instr.sureAddr,Sem.run_bind,Sem.run_pure,dO,aa];exact U undef _ (Stp.cell g d v) ⟨_,J.iV d v,by rw[Array.size_setIfInBounds];omega,Array.getElem?_setIfInBounds_self_of_lt (by omega)⟩
theorem jI.nil{i:Nat}{d:List W2}(j:d.Pairwise W2.fit)(h: ∀u w,Stp S w0 w->(∀(i:Nat) (x:W2),d[i]? =some x->x.Φ (u i) w)->Q .normal (F u) w):jI P ops F S w0 Q [] i d:=⟨j,h⟩
theorem fC{o:Oper}{Φ:Value->World->Prop}{u:Nat->Value}{w:World}{T:World->World->Prop}(j:aF o (yielded ops (F u).tmps)=true)(h: ∀d:Act->World->Prop,(∀v w',T w w'->Φ v w'->d ((F u).put o.dst v) w')->o.wp P (F u) w d Q):jP P ops F T o Φ Q u w:=by unfold jP;rw[if_pos j];exact h
end
def arh:Array Value->Nat->List Value->Array Value
 |a,_,[]=>a
 |a,o,v::vs=>arh (a.setIfInBounds o v) (o+1) vs
theorem fK.yE{g:Nat}{t:TypeId}: ∀(vs:List Value) (o:Nat) (cs:Array Value) (w:World),fK w g t cs->fK (w.setCells g o vs) g t (arh cs o vs)
 | [],_,_,_,h=>h
 |v::vs,o,cs,w,h=>fK.yE vs (o+1) (cs.setIfInBounds o v) (w.setCell ⟨g,o,none⟩ v) (h.iV o v)
theorem jX(g:Nat): ∀(vs:List Value) (o:Nat) (w:World),(w.setCells g o vs).heap.size=w.heap.size/\(∀k,k≠g->(w.setCells g o vs).heap[k]? =w.heap[k]?)/\(w.setCells g o vs).os=w.os/\(w.setCells g o vs).tape=w.tape/\(w.setCells g o vs).output=w.output
 | [],_,_=>⟨rfl,λ_ _=>rfl,rfl,rfl,rfl⟩
 |v::vs,o,w=>by obtain⟨j,H,J,K,M⟩:=jX g vs (o+1) (w.setCell ⟨g,o,none⟩ v);refine⟨j.trans (by simp[dD]),λk d=>(H k d).trans (aN w ⟨g,o,none⟩ v k d),J,K,M⟩
theorem zQ{P:Program}{ops:Array Oper}{rest:List Oper}{o:Oper}{a:Act}{w:World}{Q:Exit->Act->World->Prop}(V:o.guard=none)(ty:TypeId)(x y:Operand)(Y:o.op=.store ty x y)(g i:Nat)(cells:Array Value)(Z:a.eval x=.pointer (some ⟨g,i,none⟩))(hy:a.eval y=cells)(t:TypeId)(old:Array Value)(d:fK w g t old)(hi:(P.info? ty).map (·.size)=some cells.size)(aa:i+cells.size<=old.size)(J:cells.all (·.oneCell')=true)(B:Nat)(w0:World)(U:Below B w0 w)(hB:B<=g)(h: ∀W:World,fK W g t (arh old i cells.toList)->Below B w0 W->W.heap.size=w.heap.size->(∀k,k≠g->W.heap[k]? =w.heap[k]?)->wpList P ops Q rest (a.put o.dst undef) W):wpList P ops Q (o::rest) a w:=by
 obtain⟨K,j,M,N,O⟩:=jX g cells.toList i w;refine wpList_store_mid V ty x y Y g i cells Z hy ?_ hi J (h _ (fK.yE cells.toList i old w d) (U.trans ⟨M,N,O,by omega,λk hk=>j k (by omega)⟩) K j);intro H hj;have hc:w.cell? ⟨g,i+H,none⟩=some (old[i+H]'(by omega)):=by rw[d.cell];simp
 exact⟨by rw[hc];rfl,d.frozen _⟩
abbrev Bk:=Nat × TypeId × Array Value
structure Own (w W:World) (L:List Bk):Prop where
  below:w W
  blk: ∀x,x∈L->w.heap.size<=x.1/\fK W x.1 x.2.1 x.2.2
  nodup:(L.map (·.1)).Nodup
theorem Own.grow{w W W':World}{L:List Bk}(h:Own w W L)(j:W W'):Own w W' L:=⟨h.below.trans (j.mono h.below.size),λx d=>⟨(h.blk x d).1,(h.blk x d).2.below j (h.blk x d).2.lt⟩,h.nodup⟩
theorem Own.alloc{w W:World}{L:List Bk}(h:Own w W L)(t:TypeId)(cs:Array Value)(g:Nat)(J:g=W.heap.size):Own w (W.alloc (.cells cs t)) (L++ [(g,t,cs)]):=by
 subst J;refine⟨h.below.alloc h.below.size _,?_,?_⟩
 ·intro x d;rcases dK.1 d with a |a;·exact⟨(h.blk x a).1,(h.blk x a).2.alloc _⟩
  ·simp at a;subst a;exact⟨h.below.size,fK.new _ _ _⟩
 ·rw[eX,List.nodup_append];refine⟨h.nodup,by simp,?_⟩;intro a j b H;simp at H;subst H;simp only[List.mem_map]at j;obtain⟨x,d,rfl⟩:=j;have:=(h.blk x d).2.lt;omega
theorem Own.nil(w:World):Own w w []:=⟨aH _ _,λ_ d=>absurd d dH,List.nodup_nil⟩
theorem Own.with{w W W':World}{L1 L2:List Bk}{g:Nat}{t:TypeId}{old cs:Array Value}(h:Own w W (L1++(g,t,old)::L2))(J:w W')(K:fK W' g t cs)(j: ∀k,k≠g->W'.heap[k]? =W.heap[k]?):Own w W' (L1++(g,t,cs)::L2):=by
 have H:=h.nodup;rw[eX,List.map_cons,List.nodup_append]at H;obtain⟨n1,n2,n3⟩:=H;rw[List.nodup_cons]at n2;have far: ∀x,x∈L1\/x∈L2->x.1≠g:=by
  rintro x (d |d) e;·exact n3 x.1 (List.mem_map_of_mem d) g (by simp) e
  ·have hm:x.1∈L2.map (·.1):=List.mem_map_of_mem d;rw[e]at hm;exact n2.1 hm
 refine⟨J,?_,?_⟩
 ·intro x d;rcases dK.1 d with a |a;·have:=h.blk x (by simp[a]);exact⟨this.1,(j _ (far x (.inl a))).trans this.2⟩
  ·rcases bJ.1 a with rfl |a;(·exact⟨(h.blk (g,t,old) (by simp)).1,K⟩);·have:=h.blk x (by simp[a]);exact⟨this.1,(j _ (far x (.inr a))).trans this.2⟩
 ·have:=h.nodup;simpa using this
theorem Own.at_{w W:World}{L1 L2:List Bk}{g:Nat}{t:TypeId}{cs:Array Value}(h:Own w W (L1++(g,t,cs)::L2)):fK W g t cs:=(h.blk (g,t,cs) (by simp)).2
theorem Own.lo{w W:World}{L1 L2:List Bk}{g:Nat}{t:TypeId}{cs:Array Value}(h:Own w W (L1++(g,t,cs)::L2)):w.heap.size<=g:=(h.blk (g,t,cs) (by simp)).1
theorem Own.after{w W W':World}{L d:List Bk}{S:wE}(h:Own w W L)(M:Stp S W W')(J: ∀k o,(k,o)∈S->w.heap.size<=k)(j:d.map (·.1)=L.map (·.1))(K: ∀x,x∈d->fK W' x.1 x.2.1 x.2.2):Own w W' d:=by
 refine⟨h.below.trans (M.below h.below.size J),?_,by rw[j];exact h.nodup⟩;intro x H;have:x.1∈L.map (·.1):=by rw[<-j];exact List.mem_map_of_mem H
 simp only[List.mem_map]at this;obtain⟨y,N,e⟩:=this;exact⟨e▸(h.blk y N).1,K x H⟩
section
variable {P:Program} {ops:Array Oper} {rest:List Oper} {o:Oper} {a:Act} {w W:World} {Q:Exit->Act->World->Prop}
theorem ng{L1 L2:List Bk}{g:Nat}{t:TypeId}{old:Array Value}(cells:Array Value)(d:Own w W (L1++(g,t,old)::L2))(M:o.guard=none)(x y:Operand)(N:o.op=.store t x y)(U:a.eval x=.pointer g)(V:a.eval y=cells)(hi:(P.info? t).map (·.size)=some cells.size)(O:old.size=cells.size)(H:cells.all (·.oneCell')=true)(h: ∀W':World,Own w W' (L1++(g,t,cells)::L2)->W'.heap.size=W.heap.size->(∀k,k≠g->W'.heap[k]? =W.heap[k]?)->wpList P ops Q rest (a.put o.dst undef) W'):wpList P ops Q (o::rest) a W:=jZ M t x y N g cells U V t old d.at_ hi O H w w d.below d.lo λW' K J Y j=>h W' (d.with J K j) Y j
theorem uH{L1 L2:List Bk}{g:Nat}{t:TypeId}{old:Array Value}(i:Nat)(v:Value)(d:Own w W (L1++(g,t,old)::L2))(M:o.guard=none)(ty:TypeId)(x y:Operand)(O:o.op=.store ty x y)(V:a.eval x=.pointer (some ⟨g,i,none⟩))(Y:a.eval y=v)(hi:(P.info? ty).map (·.size)=some 1)(N:i<old.size)(J:v.oneCell'=true)(h: ∀W':World,Own w W' (L1++(g,t,old.setIfInBounds i v)::L2)->W'.heap.size=W.heap.size->(∀k,k≠g->W'.heap[k]? =W.heap[k]?)->wpList P ops Q rest (a.put o.dst undef) W'):wpList P ops Q (o::rest) a W:=by have H:=d.at_;refine wpList_plain M λZ K=>?_;have U:=qU (P:=P) W g i t ty old v H N hi J;unfold Oper.wp execOp;simp only[O,V,Y,Instr.storeAt,Instr.sureAddr,Sem.run_bind,Sem.run_pure,dO,U];have j: ∀k,k≠g->(W.setCell ⟨g,i,none⟩ v).heap[k]? =W.heap[k]? :=λk j=>aN W ⟨g,i,none⟩ v k j;exact K _ _ (h _ (d.with (d.below.setCell (p:=⟨g,i,none⟩) d.lo v) (H.iV i v) j) (by simp[dD]) j)
theorem vK{L1 L2:List Bk}{g:Nat}{t:TypeId}{old:Array Value}(i:Nat)(cells:Array Value)(d:Own w W (L1++(g,t,old)::L2))(M:o.guard=none)(ty:TypeId)(x y:Operand)(N:o.op=.store ty x y)(U:a.eval x=.pointer (some ⟨g,i,none⟩))(V:a.eval y=cells)(hi:(P.info? ty).map (·.size)=some cells.size)(O:i+cells.size<=old.size)(H:cells.all (·.oneCell')=true)(h: ∀W':World,Own w W' (L1++(g,t,arh old i cells.toList)::L2)->W'.heap.size=W.heap.size->(∀k,k≠g->W'.heap[k]? =W.heap[k]?)->wpList P ops Q rest (a.put o.dst undef) W'):wpList P ops Q (o::rest) a W:=zQ M ty x y N g i cells U V t old d.at_ hi O H w w d.below d.lo λW' K J Y j=>h W' (d.with J K j) Y j
theorem arP(j:aF o (yielded ops a.tmps)=true)(h: ∀d:Act->World->Prop,(∀a w,wpList P ops Q rest a w->d a w)->o.wp P a W d Q):wpList P ops Q (o::rest) a W:=by unfold wpList;rw[if_pos j];exact .inl (h _ λ_ _ h=>h)
theorem lK{L1 L2:List Bk}{g:Nat}{t:TypeId}{cs:Array Value}(H:Own w W (L1++(g,t,cs)::L2))(N:aF o (yielded ops a.tmps)=true)(x:Operand)(K:o.op=.load t x)(O:a.eval x=.pointer g)(d:TypeDesc)(M:P.underlying t=some d)(J:(match d with | .struct _ | .array _ _=>true |_=>false)=true)(hi:(P.info? t).map (·.size)=some cs.size)(h:wpList P ops Q rest (a.put o.dst cs) W):wpList P ops Q (o::rest) a W:=arP N λ_ j=>wp_load_row t x K g O t cs (0,0) d H.at_ M J hi (j _ _ h)
theorem gK{L:List Bk}{g:Nat}{t:TypeId}{cs:Array Value}(j:Own w W ((g,t,cs)::L))(M:aF o (yielded ops a.tmps)=true)(x:Operand)(J:o.op=.load t x)(N:a.eval x=.pointer g)(d:TypeDesc)(K:P.underlying t=some d)(H:(match d with | .struct _ | .array _ _=>true |_=>false)=true)(hi:(P.info? t).map (·.size)=some cs.size)(h:wpList P ops Q rest (a.put o.dst cs) W):wpList P ops Q (o::rest) a W:=lK (L1:= []) j M x J N d K H hi h
theorem oG{L:List Bk}{g:Nat}{t:TypeId}{old:Array Value}(cells:Array Value)(j:Own w W ((g,t,old)::L))(H:o.guard=none)(x y:Operand)(J:o.op=.store t x y)(M:a.eval x=.pointer g)(N:a.eval y=cells)(hi:(P.info? t).map (·.size)=some cells.size)(K:old.size=cells.size)(d:cells.all (·.oneCell')=true)(h: ∀W':World,Own w W' ((g,t,cells)::L)->W'.heap.size=W.heap.size->(∀k,k≠g->W'.heap[k]? =W.heap[k]?)->wpList P ops Q rest (a.put o.dst undef) W'):wpList P ops Q (o::rest) a W:=ng (L1:= []) cells j H x y J M N hi K d h
theorem jq{L:List Bk}{g:Nat}{t:TypeId}{old:Array Value}(i:Nat)(u:Value)(j:Own w W ((g,t,old)::L))(H:o.guard=none)(ty:TypeId)(x y:Operand)(K:o.op=.store ty x y)(M:a.eval x=.pointer (some ⟨g,i,none⟩))(N:a.eval y=u)(hi:(P.info? ty).map (·.size)=some 1)(J:i<old.size)(d:u.oneCell'=true)(h: ∀W':World,Own w W' ((g,t,old.setIfInBounds i u)::L)->W'.heap.size=W.heap.size->(∀k,k≠g->W'.heap[k]? =W.heap[k]?)->wpList P ops Q rest (a.put o.dst undef) W'):wpList P ops Q (o::rest) a W:=uH (L1:= []) i u j H ty x y K M N hi J d h
theorem ni{L:List Bk}{g:Nat}{t:TypeId}{old:Array Value}(i:Nat)(cells:Array Value)(j:Own w W ((g,t,old)::L))(H:o.guard=none)(ty:TypeId)(x y:Operand)(J:o.op=.store ty x y)(M:a.eval x=.pointer (some ⟨g,i,none⟩))(N:a.eval y=cells)(hi:(P.info? ty).map (·.size)=some cells.size)(K:i+cells.size<=old.size)(d:cells.all (·.oneCell')=true)(h: ∀W':World,Own w W' ((g,t,arh old i cells.toList)::L)->W'.heap.size=W.heap.size->(∀k,k≠g->W'.heap[k]? =W.heap[k]?)->wpList P ops Q rest (a.put o.dst undef) W'):wpList P ops Q (o::rest) a W:=vK (L1:= []) i cells j H ty x y J M N hi K d h
theorem Own.b0{L:List Bk}{g:Nat}{t:TypeId}{cs:Array Value}(d:Own w W ((g,t,cs)::L)):fK W g t cs:=Own.at_ (L1:= []) d
theorem iQ{j:Bk}{L:List Bk}{g:Nat}{t:TypeId}{cs:Array Value}(H:Own w W (j::(g,t,cs)::L))(N:aF o (yielded ops a.tmps)=true)(x:Operand)(K:o.op=.load t x)(O:a.eval x=.pointer g)(d:TypeDesc)(M:P.underlying t=some d)(J:(match d with | .struct _ | .array _ _=>true |_=>false)=true)(hi:(P.info? t).map (·.size)=some cs.size)(h:wpList P ops Q rest (a.put o.dst cs) W):wpList P ops Q (o::rest) a W:=lK (L1:= [j]) H N x K O d M J hi h
theorem kY{d:Bk}{L:List Bk}{g:Nat}{t:TypeId}{old:Array Value}(cells:Array Value)(H:Own w W (d::(g,t,old)::L))(J:o.guard=none)(x y:Operand)(K:o.op=.store t x y)(N:a.eval x=.pointer g)(O:a.eval y=cells)(hi:(P.info? t).map (·.size)=some cells.size)(M:old.size=cells.size)(j:cells.all (·.oneCell')=true)(h: ∀W':World,Own w W' (d::(g,t,cells)::L)->W'.heap.size=W.heap.size->(∀k,k≠g->W'.heap[k]? =W.heap[k]?)->wpList P ops Q rest (a.put o.dst undef) W'):wpList P ops Q (o::rest) a W:=ng (L1:= [d]) cells H J x y K N O hi M j h
theorem asu{d:Bk}{L:List Bk}{g:Nat}{t:TypeId}{old:Array Value}(i:Nat)(u:Value)(H:Own w W (d::(g,t,old)::L))(J:o.guard=none)(ty:TypeId)(x y:Operand)(M:o.op=.store ty x y)(N:a.eval x=.pointer (some ⟨g,i,none⟩))(O:a.eval y=u)(hi:(P.info? ty).map (·.size)=some 1)(K:i<old.size)(j:u.oneCell'=true)(h: ∀W':World,Own w W' (d::(g,t,old.setIfInBounds i u)::L)->W'.heap.size=W.heap.size->(∀k,k≠g->W'.heap[k]? =W.heap[k]?)->wpList P ops Q rest (a.put o.dst undef) W'):wpList P ops Q (o::rest) a W:=uH (L1:= [d]) i u H J ty x y M N O hi K j h
theorem abr{d:Bk}{L:List Bk}{g:Nat}{t:TypeId}{old:Array Value}(i:Nat)(cells:Array Value)(H:Own w W (d::(g,t,old)::L))(J:o.guard=none)(ty:TypeId)(x y:Operand)(K:o.op=.store ty x y)(N:a.eval x=.pointer (some ⟨g,i,none⟩))(O:a.eval y=cells)(hi:(P.info? ty).map (·.size)=some cells.size)(M:i+cells.size<=old.size)(j:cells.all (·.oneCell')=true)(h: ∀W':World,Own w W' (d::(g,t,arh old i cells.toList)::L)->W'.heap.size=W.heap.size->(∀k,k≠g->W'.heap[k]? =W.heap[k]?)->wpList P ops Q rest (a.put o.dst undef) W'):wpList P ops Q (o::rest) a W:=vK (L1:= [d]) i cells H J ty x y K N O hi M j h
theorem Own.b1{d:Bk}{L:List Bk}{g:Nat}{t:TypeId}{cs:Array Value}(j:Own w W (d::(g,t,cs)::L)):fK W g t cs:=Own.at_ (L1:= [d]) j
theorem mJ{j H:Bk}{L:List Bk}{g:Nat}{t:TypeId}{cs:Array Value}(J:Own w W (j::H::(g,t,cs)::L))(O:aF o (yielded ops a.tmps)=true)(x:Operand)(M:o.op=.load t x)(U:a.eval x=.pointer g)(d:TypeDesc)(N:P.underlying t=some d)(K:(match d with | .struct _ | .array _ _=>true |_=>false)=true)(hi:(P.info? t).map (·.size)=some cs.size)(h:wpList P ops Q rest (a.put o.dst cs) W):wpList P ops Q (o::rest) a W:=lK (L1:= [j,H]) J O x M U d N K hi h
theorem jv{d j:Bk}{L:List Bk}{g:Nat}{t:TypeId}{old:Array Value}(cells:Array Value)(J:Own w W (d::j::(g,t,old)::L))(K:o.guard=none)(x y:Operand)(M:o.op=.store t x y)(O:a.eval x=.pointer g)(U:a.eval y=cells)(hi:(P.info? t).map (·.size)=some cells.size)(N:old.size=cells.size)(H:cells.all (·.oneCell')=true)(h: ∀W':World,Own w W' (d::j::(g,t,cells)::L)->W'.heap.size=W.heap.size->(∀k,k≠g->W'.heap[k]? =W.heap[k]?)->wpList P ops Q rest (a.put o.dst undef) W'):wpList P ops Q (o::rest) a W:=ng (L1:= [d,j]) cells J K x y M O U hi N H h
theorem Nu{d j:Bk}{L:List Bk}{g:Nat}{t:TypeId}{old:Array Value}(i:Nat)(u:Value)(J:Own w W (d::j::(g,t,old)::L))(K:o.guard=none)(ty:TypeId)(x y:Operand)(N:o.op=.store ty x y)(O:a.eval x=.pointer (some ⟨g,i,none⟩))(U:a.eval y=u)(hi:(P.info? ty).map (·.size)=some 1)(M:i<old.size)(H:u.oneCell'=true)(h: ∀W':World,Own w W' (d::j::(g,t,old.setIfInBounds i u)::L)->W'.heap.size=W.heap.size->(∀k,k≠g->W'.heap[k]? =W.heap[k]?)->wpList P ops Q rest (a.put o.dst undef) W'):wpList P ops Q (o::rest) a W:=uH (L1:= [d,j]) i u J K ty x y N O U hi M H h
theorem abt{d j:Bk}{L:List Bk}{g:Nat}{t:TypeId}{old:Array Value}(i:Nat)(cells:Array Value)(J:Own w W (d::j::(g,t,old)::L))(K:o.guard=none)(ty:TypeId)(x y:Operand)(M:o.op=.store ty x y)(O:a.eval x=.pointer (some ⟨g,i,none⟩))(U:a.eval y=cells)(hi:(P.info? ty).map (·.size)=some cells.size)(N:i+cells.size<=old.size)(H:cells.all (·.oneCell')=true)(h: ∀W':World,Own w W' (d::j::(g,t,arh old i cells.toList)::L)->W'.heap.size=W.heap.size->(∀k,k≠g->W'.heap[k]? =W.heap[k]?)->wpList P ops Q rest (a.put o.dst undef) W'):wpList P ops Q (o::rest) a W:=vK (L1:= [d,j]) i cells J K ty x y M O U hi N H h
theorem Own.b2{d j:Bk}{L:List Bk}{g:Nat}{t:TypeId}{cs:Array Value}(H:Own w W (d::j::(g,t,cs)::L)):fK W g t cs:=Own.at_ (L1:= [d,j]) H
theorem VN{j H J:Bk}{L:List Bk}{g:Nat}{t:TypeId}{cs:Array Value}(K:Own w W (j::H::J::(g,t,cs)::L))(U:aF o (yielded ops a.tmps)=true)(x:Operand)(N:o.op=.load t x)(V:a.eval x=.pointer g)(d:TypeDesc)(O:P.underlying t=some d)(M:(match d with | .struct _ | .array _ _=>true |_=>false)=true)(hi:(P.info? t).map (·.size)=some cs.size)(h:wpList P ops Q rest (a.put o.dst cs) W):wpList P ops Q (o::rest) a W:=lK (L1:= [j,H,J]) K U x N V d O M hi h
theorem EC{d j H:Bk}{L:List Bk}{g:Nat}{t:TypeId}{old:Array Value}(cells:Array Value)(K:Own w W (d::j::H::(g,t,old)::L))(M:o.guard=none)(x y:Operand)(N:o.op=.store t x y)(U:a.eval x=.pointer g)(V:a.eval y=cells)(hi:(P.info? t).map (·.size)=some cells.size)(O:old.size=cells.size)(J:cells.all (·.oneCell')=true)(h: ∀W':World,Own w W' (d::j::H::(g,t,cells)::L)->W'.heap.size=W.heap.size->(∀k,k≠g->W'.heap[k]? =W.heap[k]?)->wpList P ops Q rest (a.put o.dst undef) W'):wpList P ops Q (o::rest) a W:=ng (L1:= [d,j,H]) cells K M x y N U V hi O J h
theorem Zj{d j H:Bk}{L:List Bk}{g:Nat}{t:TypeId}{old:Array Value}(i:Nat)(u:Value)(K:Own w W (d::j::H::(g,t,old)::L))(M:o.guard=none)(ty:TypeId)(x y:Operand)(O:o.op=.store ty x y)(U:a.eval x=.pointer (some ⟨g,i,none⟩))(V:a.eval y=u)(hi:(P.info? ty).map (·.size)=some 1)(N:i<old.size)(J:u.oneCell'=true)(h: ∀W':World,Own w W' (d::j::H::(g,t,old.setIfInBounds i u)::L)->W'.heap.size=W.heap.size->(∀k,k≠g->W'.heap[k]? =W.heap[k]?)->wpList P ops Q rest (a.put o.dst undef) W'):wpList P ops Q (o::rest) a W:=uH (L1:= [d,j,H]) i u K M ty x y O U V hi N J h
theorem Own.b3{d j H:Bk}{L:List Bk}{g:Nat}{t:TypeId}{cs:Array Value}(J:Own w W (d::j::H::(g,t,cs)::L)):fK W g t cs:=Own.at_ (L1:= [d,j,H]) J
theorem VO{j H J K:Bk}{L:List Bk}{g:Nat}{t:TypeId}{cs:Array Value}(M:Own w W (j::H::J::K::(g,t,cs)::L))(V:aF o (yielded ops a.tmps)=true)(x:Operand)(O:o.op=.load t x)(Y:a.eval x=.pointer g)(d:TypeDesc)(U:P.underlying t=some d)(N:(match d with | .struct _ | .array _ _=>true |_=>false)=true)(hi:(P.info? t).map (·.size)=some cs.size)(h:wpList P ops Q rest (a.put o.dst cs) W):wpList P ops Q (o::rest) a W:=lK (L1:= [j,H,J,K]) M V x O Y d U N hi h
theorem RD{d j H J:Bk}{L:List Bk}{g:Nat}{t:TypeId}{old:Array Value}(cells:Array Value)(M:Own w W (d::j::H::J::(g,t,old)::L))(N:o.guard=none)(x y:Operand)(O:o.op=.store t x y)(V:a.eval x=.pointer g)(Y:a.eval y=cells)(hi:(P.info? t).map (·.size)=some cells.size)(U:old.size=cells.size)(K:cells.all (·.oneCell')=true)(h: ∀W':World,Own w W' (d::j::H::J::(g,t,cells)::L)->W'.heap.size=W.heap.size->(∀k,k≠g->W'.heap[k]? =W.heap[k]?)->wpList P ops Q rest (a.put o.dst undef) W'):wpList P ops Q (o::rest) a W:=ng (L1:= [d,j,H,J]) cells M N x y O V Y hi U K h
theorem asv{d j H J:Bk}{L:List Bk}{g:Nat}{t:TypeId}{old:Array Value}(i:Nat)(u:Value)(M:Own w W (d::j::H::J::(g,t,old)::L))(N:o.guard=none)(ty:TypeId)(x y:Operand)(U:o.op=.store ty x y)(V:a.eval x=.pointer (some ⟨g,i,none⟩))(Y:a.eval y=u)(hi:(P.info? ty).map (·.size)=some 1)(O:i<old.size)(K:u.oneCell'=true)(h: ∀W':World,Own w W' (d::j::H::J::(g,t,old.setIfInBounds i u)::L)->W'.heap.size=W.heap.size->(∀k,k≠g->W'.heap[k]? =W.heap[k]?)->wpList P ops Q rest (a.put o.dst undef) W'):wpList P ops Q (o::rest) a W:=uH (L1:= [d,j,H,J]) i u M N ty x y U V Y hi O K h
theorem Own.b4{d j H J:Bk}{L:List Bk}{g:Nat}{t:TypeId}{cs:Array Value}(K:Own w W (d::j::H::J::(g,t,cs)::L)):fK W g t cs:=Own.at_ (L1:= [d,j,H,J]) K
end
section
variable {P:Program}
theorem lY{N:Func}{a b c:Tmp}{d j:TypeId}(h:N.results= #[.cell a d,.cell b j,.tmp c])(tmps:Array Value)(w:World)(H J:Nat)(c1 c2:Array Value)(v:Value)(K M:TypeDesc)(V:tmps.getD a undef=.pointer H)(Z:tmps.getD b undef=.pointer J)(hc:tmps.getD c undef=v)(O:fK w H d c1)(U:fK w J j c2)(u1:P.underlying d=some K)(k1:(match K with | .struct _ | .array _ _=>true |_=>false)=true)(i1:(P.info? d).map (·.size)=some c1.size)(u2:P.underlying j=some M)(k2:(match M with | .struct _ | .array _ _=>true |_=>false)=true)(i2:(P.info? j).map (·.size)=some c2.size):(results N tmps).run P w=.ok (.tuple #[c1,c2,v]) w:=by
 have Y:tmps[a]?.getD undef=.pointer H:=by simpa using V
 have aa:tmps[b]?.getD undef=.pointer J:=by simpa using Z
 have ac:tmps[c]?.getD undef=v:=by simpa using hc
 simp[results,h,Y,aa,ac,asAddr,run_loadVar_row w H d d c1 (0,0) K O u1 k1 i1,run_loadVar_row w J j j c2 (0,0) M U u2 k2 i2]
theorem yF{J:Func}{a c:Tmp}{d:TypeId}(h:J.results= #[.cell a d,.tmp c])(tmps:Array Value)(w:World)(j:Nat)(c1:Array Value)(v:Value)(H:TypeDesc)(M:tmps.getD a undef=.pointer j)(hc:tmps.getD c undef=v)(K:fK w j d c1)(V:P.underlying d=some H)(k1:(match H with | .struct _ | .array _ _=>true |_=>false)=true)(U:(P.info? d).map (·.size)=some c1.size):(results J tmps).run P w=.ok (.tuple #[c1,v]) w:=by
 have N:tmps[a]?.getD undef=.pointer j:=by simpa using M
 have O:tmps[c]?.getD undef=v:=by simpa using hc
 simp[results,h,N,O,asAddr,run_loadVar_row w j d d c1 (0,0) H K V k1 U]
end
theorem Own.start3(w:World)(d j H:TypeId)(c1 c2 c3:Array Value):Own w (((w.alloc (.cells c1 d)).alloc (.cells c2 j)).alloc (.cells c3 H)) [(w,d,c1),(w.heap.size+1,j,c2),(w.heap.size+1+1,H,c3)]:=(((Own.nil w).alloc d c1 _ rfl).alloc j c2 _ (by simp)).alloc H c3 _ (by simp)
theorem Own.start4(w:World)(d j H J:TypeId)(c1 c2 c3 c4:Array Value):Own w ((((w.alloc (.cells c1 d)).alloc (.cells c2 j)).alloc (.cells c3 H)).alloc (.cells c4 J)) [(w,d,c1),(w.heap.size+1,j,c2),(w.heap.size+1+1,H,c3),(w.heap.size+1+1+1,J,c4)]:=(Own.start3 w d j H c1 c2 c3).alloc J c4 _ (by simp)
theorem Own.iY(w:World)(d j:TypeId)(c1 c2:Array Value):Own w ((w.alloc (.cells c1 d)).alloc (.cells c2 j)) [(w,d,c1),(w.heap.size+1,j,c2)]:=((Own.nil w).alloc d c1 _ rfl).alloc j c2 _ (by simp)
theorem Own.new2{w W:World}{d j:Bk}(h:Own w W [d,j])(t:TypeId)(cs:Array Value):Own w (W.alloc (.cells cs t)) [d,j,(W,t,cs)]:=h.alloc t cs _ rfl
theorem Own.abu{w W:World}{d j H:Bk}(h:Own w W [d,j,H])(t:TypeId)(cs:Array Value):Own w (W.alloc (.cells cs t)) [d,j,H,(W,t,cs)]:=h.alloc t cs _ rfl
theorem Own.alC{w W:World}{d j H J:Bk}(h:Own w W [d,j,H,J])(t:TypeId)(cs:Array Value):Own w (W.alloc (.cells cs t)) [d,j,H,J,(W,t,cs)]:=h.alloc t cs _ rfl
section
variable {P:Program} {ops:Array Oper} {rest:List Oper} {o:Oper} {a:Act} {w W:World} {Q:Exit->Act->World->Prop}
theorem abv{d j H J K:Bk}{L:List Bk}{g:Nat}{t:TypeId}{old:Array Value}(cells:Array Value)(N:Own w W (d::j::H::J::K::(g,t,old)::L))(O:o.guard=none)(x y:Operand)(U:o.op=.store t x y)(Y:a.eval x=.pointer g)(Z:a.eval y=cells)(hi:(P.info? t).map (·.size)=some cells.size)(V:old.size=cells.size)(M:cells.all (·.oneCell')=true)(h: ∀W':World,Own w W' (d::j::H::J::K::(g,t,cells)::L)->W'.heap.size=W.heap.size->(∀k,k≠g->W'.heap[k]? =W.heap[k]?)->wpList P ops Q rest (a.put o.dst undef) W'):wpList P ops Q (o::rest) a W:=ng (L1:= [d,j,H,J,K]) cells N O x y U Y Z hi V M h
theorem VP{j H J K M:Bk}{L:List Bk}{g:Nat}{t:TypeId}{cs:Array Value}(N:Own w W (j::H::J::K::M::(g,t,cs)::L))(Y:aF o (yielded ops a.tmps)=true)(x:Operand)(U:o.op=.load t x)(Z:a.eval x=.pointer g)(d:TypeDesc)(V:P.underlying t=some d)(O:(match d with | .struct _ | .array _ _=>true |_=>false)=true)(hi:(P.info? t).map (·.size)=some cs.size)(h:wpList P ops Q rest (a.put o.dst cs) W):wpList P ops Q (o::rest) a W:=lK (L1:= [j,H,J,K,M]) N Y x U Z d V O hi h
theorem Own.b5{d j H J K:Bk}{L:List Bk}{g:Nat}{t:TypeId}{cs:Array Value}(M:Own w W (d::j::H::J::K::(g,t,cs)::L)):fK W g t cs:=Own.at_ (L1:= [d,j,H,J,K]) M
theorem Own.asz{d j H J K:Bk}(h:Own w W [d,j,H,J,K])(t:TypeId)(cs:Array Value):Own w (W.alloc (.cells cs t)) [d,j,H,J,K,(W,t,cs)]:=h.alloc t cs _ rfl
theorem asx{d j H J K M:Bk}{L:List Bk}{g:Nat}{t:TypeId}{old:Array Value}(cells:Array Value)(O:Own w W (d::j::H::J::K::M::(g,t,old)::L))(U:o.guard=none)(x y:Operand)(V:o.op=.store t x y)(Z:a.eval x=.pointer g)(hy:a.eval y=cells)(hi:(P.info? t).map (·.size)=some cells.size)(Y:old.size=cells.size)(N:cells.all (·.oneCell')=true)(h: ∀W':World,Own w W' (d::j::H::J::K::M::(g,t,cells)::L)->W'.heap.size=W.heap.size->(∀k,k≠g->W'.heap[k]? =W.heap[k]?)->wpList P ops Q rest (a.put o.dst undef) W'):wpList P ops Q (o::rest) a W:=ng (L1:= [d,j,H,J,K,M]) cells O U x y V Z hy hi Y N h
theorem asr{j H J K M N:Bk}{L:List Bk}{g:Nat}{t:TypeId}{cs:Array Value}(O:Own w W (j::H::J::K::M::N::(g,t,cs)::L))(Z:aF o (yielded ops a.tmps)=true)(x:Operand)(V:o.op=.load t x)(hx:a.eval x=.pointer g)(d:TypeDesc)(Y:P.underlying t=some d)(U:(match d with | .struct _ | .array _ _=>true |_=>false)=true)(hi:(P.info? t).map (·.size)=some cs.size)(h:wpList P ops Q rest (a.put o.dst cs) W):wpList P ops Q (o::rest) a W:=lK (L1:= [j,H,J,K,M,N]) O Z x V hx d Y U hi h
theorem Own.b6{d j H J K M:Bk}{L:List Bk}{g:Nat}{t:TypeId}{cs:Array Value}(N:Own w W (d::j::H::J::K::M::(g,t,cs)::L)):fK W g t cs:=Own.at_ (L1:= [d,j,H,J,K,M]) N
theorem Own.asA{d j H J K M:Bk}(h:Own w W [d,j,H,J,K,M])(t:TypeId)(cs:Array Value):Own w (W.alloc (.cells cs t)) [d,j,H,J,K,M,(W,t,cs)]:=h.alloc t cs _ rfl
theorem Own.b7{d j H J K M N:Bk}{L:List Bk}{g:Nat}{t:TypeId}{cs:Array Value}(O:Own w W (d::j::H::J::K::M::N::(g,t,cs)::L)):fK W g t cs:=Own.at_ (L1:= [d,j,H,J,K,M,N]) O
theorem Own.b8{d j H J K M N O:Bk}{L:List Bk}{g:Nat}{t:TypeId}{cs:Array Value}(U:Own w W (d::j::H::J::K::M::N::O::(g,t,cs)::L)):fK W g t cs:=Own.at_ (L1:= [d,j,H,J,K,M,N,O]) U
end
theorem Own.abw(w:World)(j H J K M:TypeId)(c1 c2 c3 c4 d:Array Value):Own w (((((w.alloc (.cells c1 j)).alloc (.cells c2 H)).alloc (.cells c3 J)).alloc (.cells c4 K)).alloc (.cells d M)) [(w,j,c1),(w.heap.size+1,H,c2),(w.heap.size+1+1,J,c3),(w.heap.size+1+1+1,K,c4),(w.heap.size+1+1+1+1,M,d)]:=(Own.start4 w j H J K c1 c2 c3 c4).alloc M d _ (by simp)
end
end Go.Proofs.YthnmgjngniciaaaGreatDoor
