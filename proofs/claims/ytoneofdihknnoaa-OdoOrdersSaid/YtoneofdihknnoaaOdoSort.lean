/- Readings in order: what the library's sort, clone and delete do with them. -/
import Derived.Shelf.SlicesE.Clone
import Derived.Shelf.SlicesE.DeleteFunc
import Derived.Shelf.SlSortCmp.Insertion
import Derived.Test.YtoneofdihknnoaaOdoOrder
import Derived.Laws.OwnMore
set_option linter.unusedSimpArgs false
set_option linter.unusedVariables false
namespace Go.Proofs.Ytoneofdihknnoaa
open Go.RowKit Go.Shelf Go.Sort Ieee

def laysClone_ren : Go.Shelf.Ren := ⟨fun | 41 => 29 | n => n, fun | 22 => 32 | 23 => 22 | 4 => 4 | n => n, fun | n => n⟩
theorem laysClone : Go.Proofs.SlLaysE0.n41 Try.prog laysClone_ren where
  mixed := by kernel_rfl
  f41 := ⟨ "slices.Clone[[]float64,float64]", by decide, Try.func29.trans (congrArg some (by kernel_rfl))⟩
  t4 := Try.underlying4
  a4 := Try.isAgg4
  z4 := Try.sizeOf4
  v4 := Try.zeroValue4
  t22 := Try.underlying32
  a22 := Try.isAgg32
  z22 := Try.sizeOf32
  v22 := Try.zeroValue32
def laysIns_ren : Go.Shelf.Ren := ⟨fun | 20 => 44 | n => n, fun | 24 => 22 | 22 => 32 | 3 => 3 | 25 => 39 | 4 => 4 | 0 => 0 | n => n, fun | n => n⟩
theorem laysIns : Go.Proofs.SlLaysF.n20 Try.prog laysIns_ren where
  mixed := by kernel_rfl
  f20 := ⟨ "slices.insertionSortCmpFunc[float64]", by decide, Try.func44.trans (congrArg some (by kernel_rfl))⟩
  t0 := Try.underlying0
  a0 := Try.isAgg0
  z0 := Try.sizeOf0
  v0 := Try.zeroValue0
  t3 := Try.underlying3
  a3 := Try.isAgg3
  z3 := Try.sizeOf3
  v3 := Try.zeroValue3
  t4 := Try.underlying4
  a4 := Try.isAgg4
  z4 := Try.sizeOf4
  v4 := Try.zeroValue4
  t22 := Try.underlying32
  a22 := Try.isAgg32
  z22 := Try.sizeOf32
  v22 := Try.zeroValue32
  a24 := Try.isAgg22
  z24 := Try.sizeOf22
  t25 := Try.underlying39
  a25 := Try.isAgg39
  z25 := Try.sizeOf39
  v25 := Try.zeroValue39
def laysDel_ren : Go.Shelf.Ren := ⟨fun | 10 => 31 | 6 => 39 | n => n, fun | 22 => 32 | 23 => 22 | 25 => 27 | 3 => 3 | 4 => 4 | 0 => 0 | n => n, fun | n => n⟩
theorem laysDel : Go.Proofs.SlLaysH.n10 Try.prog laysDel_ren where
  mixed := by kernel_rfl
  f6 := ⟨ "slices.IndexFunc[[]float64,float64]", by decide, Try.func39.trans (congrArg some (by kernel_rfl))⟩
  f10 := ⟨ "slices.DeleteFunc[[]float64,float64]", by decide, Try.func31.trans (congrArg some (by kernel_rfl))⟩
  t0 := Try.underlying0
  a0 := Try.isAgg0
  z0 := Try.sizeOf0
  v0 := Try.zeroValue0
  t3 := Try.underlying3
  a3 := Try.isAgg3
  z3 := Try.sizeOf3
  v3 := Try.zeroValue3
  t4 := Try.underlying4
  a4 := Try.isAgg4
  z4 := Try.sizeOf4
  v4 := Try.zeroValue4
  t22 := Try.underlying32
  a22 := Try.isAgg32
  z22 := Try.sizeOf32
  v22 := Try.zeroValue32
  a23 := Try.isAgg22
  z23 := Try.sizeOf22
  t25 := Try.underlying27
  a25 := Try.isAgg27
  z25 := Try.sizeOf27
  v25 := Try.zeroValue27

def encF (x : UInt64) : Value := .float .f64 x.toNat
theorem encF_one : OneCell encF := fun _ => rfl
def cfF (x y : UInt64) : Int := orderV x.toNat y.toNat
theorem eg_order : ∀ args w, (callFunc 27 args).run Try.prog w = .ok (.enter 27 args) w := enters_of Try.func27 (by kernel_rfl) (by rfl)
theorem eg_nan : ∀ args w, (callFunc 32 args).run Try.prog w = .ok (.enter 32 args) w := enters_of Try.func32 (by kernel_rfl) (by rfl)
theorem cmpF_k (x y : UInt64) (w : World) : Calls Try.prog 27 #[encF x, encF y] w fun e w' => e = .returned (.int .i64 (cfF x y)) ∧ w = w' := odorder_k x.toNat y.toNat w x.toNat_lt y.toNat_lt
theorem midnan_k (x : Nat) (w : World) : Calls Try.prog 32 #[.float .f64 x] w fun e w' => e = .returned (.bool (isNan x)) ∧ w = w' := by
  have h := order_self x
  cases hn : isNan x with
  | true =>
    rw [hn, if_pos rfl] at h
    go_enter Try.func32, Try.ntmps32
    go_wp2
    go_ret
    exact ⟨rfl, rfl⟩
  | false =>
    rw [hn, if_neg Bool.false_ne_true] at h
    go_enter Try.func32, Try.ntmps32
    go_wp2
    go_ret
    exact ⟨rfl, rfl⟩
/-- A row put: what lies elsewhere stays. -/
theorem putRow_other {α : Type} [Inhabited α] (enc : α → Value) (w : World) (blk off : Nat) (d : Array α) (k : Nat) (h : k ≠ blk) : (putRow enc w blk off d).heap[k]? = w.heap[k]? := by
  unfold putRow mapBlock
  simp only
  rw [Array.getElem?_modify]
  rw [if_neg (by omega)]
theorem below_putRow {α : Type} [Inhabited α] {B : Nat} {a w : World} (h : Below B a w) (enc : α → Value) (blk off : Nat) (d : Array α) (hb : B ≤ blk) : Below B a (putRow enc w blk off d) :=
  ⟨h.os, h.tape, h.output, by rw [size_putRow]; exact h.size, fun i hi => (putRow_other enc w blk off d i (by omega)).trans (h.block i hi)⟩
theorem below_aheadN {B : Nat} {a w : World} (h : Below B a w) (n : Nat) : Below B a (w.drewN n) := ⟨h.os, h.tape, h.output, h.size, h.block⟩
theorem ins_k (g cap a b : Nat) (d : Array UInt64) (w : World) (hH : Holds encF w g 0 d) (hab : a ≤ b) (hb : b ≤ d.size) (hsz : d.size < 4611686018427387904) :
    Calls Try.prog 44 #[.slice (some ⟨g, 0, none⟩) d.size cap, .int .i64 a, .int .i64 b, .func (.func 27) #[] #[]] w fun e w' => e = .returned (.tuple #[]) ∧ ∃ n, w' = (putRow encF w g 0 (Sort.insertionSort (ltOf cfF) d a b)).drewN n :=
  Any.insertionSortCmpFunc_one laysIns encF encF_one cfF 27 #[] g 0 cap a b d w eg_order (fun m os dk _ x y => (cmpF_k x y _).mono fun e w' ⟨h1, h2⟩ => ⟨h1, 0, h2.symm⟩) hH hab hb hsz
theorem stable_small_k (g cap n : Nat) (d : Array UInt64) (w : World) (hn : d.size = n) (hH : Holds encF w g 0 d) (hsz : n < 20) :
    Calls Try.prog 38 #[.slice (some ⟨g, 0, none⟩) n cap, .int .i64 n, .func (.func 27) #[] #[]] w fun e w' => e = .returned (.tuple #[]) ∧ ∃ q, w' = (putRow encF w g 0 (Sort.insertionSort (ltOf cfF) d 0 n)).drewN q := by
  have hins : ∀ W, W = w → Calls Try.prog 44 #[.slice (some ⟨g, 0, none⟩) n cap, .int .i64 0, .int .i64 n, .func (.func 27) #[] #[]] W fun e w' => e = .returned (.tuple #[]) ∧ ∃ q, w' = (putRow encF w g 0 (Sort.insertionSort (ltOf cfF) d 0 n)).drewN q := by
    rintro W rfl
    have := ins_k g cap 0 n d W hH (by omega) (by omega) (by omega)
    rw [hn] at this
    exact this
  have h1 : decide ((20 : Int) ≤ (n : Int)) = false := decide_eq_false (by omega)
  have h2 : decide ((20 : Int) < (n : Int)) = false := decide_eq_false (by omega)
  clear hH hn
  go_enter Try.func38, Try.ntmps38
  go_wp2_with fail
  go_loop [7, 8] (fun a c => a = .int .i64 0 ∧ c = .int .i64 20) (fun _ _ => 0)
  case atStart => exact ⟨rfl, rfl⟩
  case round =>
    obtain ⟨rfl, rfl⟩ := hrel
    go_wp2_with (go_at_call 44; (with_reducible refine (hins _ rfl).mono ?_); rintro e w1 ⟨rfl, q, rfl⟩)
    clear hins
    go_loopw [6, 7, 8] (fun b a c W => b = .int .i64 20 ∧ a = .int .i64 0 ∧ c = .int .i64 20 ∧ W = (putRow encF w g 0 (Sort.insertionSort (ltOf cfF) d 0 n)).drewN q) (fun _ _ _ _ => 0)
    case atStart => exact ⟨rfl, rfl, rfl, rfl⟩
    case round =>
      obtain ⟨rfl, rfl, rfl, rfl⟩ := hrel
      go_wp2_with fail
      go_end0
      exact ⟨rfl, q, rfl⟩
theorem sortstable_small_k (g cap n : Nat) (d : Array UInt64) (w : World) (hn : d.size = n) (hH : Holds encF w g 0 d) (hsz : n < 20) :
    Calls Try.prog 30 #[.slice (some ⟨g, 0, none⟩) n cap, .func (.func 27) #[] #[]] w fun e w' => e = .returned (.tuple #[]) ∧ ∃ q, w' = (putRow encF w g 0 (Sort.insertionSort (ltOf cfF) d 0 n)).drewN q := by
  have hst : ∀ W, W = w → Calls Try.prog 38 #[.slice (some ⟨g, 0, none⟩) n cap, .int .i64 n, .func (.func 27) #[] #[]] W fun e w' => e = .returned (.tuple #[]) ∧ ∃ q, w' = (putRow encF w g 0 (Sort.insertionSort (ltOf cfF) d 0 n)).drewN q := by
    rintro W rfl
    exact stable_small_k g cap n d W hn hH hsz
  clear hH hn
  go_enter Try.func30, Try.ntmps30
  go_wp2_with (go_at_call 38; (with_reducible refine (hst _ rfl).mono ?_); rintro e w1 ⟨rfl, q, rfl⟩)
  go_end0
  exact ⟨rfl, q, rfl⟩
/-- A row of readings in memory of the call's own. -/
def FRow (B : Nat) (d : Array UInt64) (v : Value) (w : World) : Prop := ∃ g cap, v = .slice (some ⟨g, 0, none⟩) d.size cap ∧ B ≤ g ∧ Holds encF w g 0 d ∧ d.size ≤ cap ∧ g < w.heap.size ∧ cap ≤ maxLen
def isort (d : Array UInt64) : Array UInt64 := Sort.insertionSort (ltOf cfF) d 0 d.size
theorem clone_k (b off c : Nat) (d : Array UInt64) (w : World) (hd0 : 0 < d.size) (hd : d.size ≤ 200) (hc : ∀ j, j < d.size → w.cell? ⟨b, off + j, none⟩ = some (encF d[j]!)) :
    Calls Try.prog 29 #[.slice (some ⟨b, off, none⟩) d.size c] w fun e w' => ∃ v, e = .returned v ∧ FRow w.heap.size d v w' ∧ Below w.heap.size w w' := by
  have hz : ∀ W, (Go.sizeOf 22).run Try.prog W = .ok 1 W := Try.sizeOf22
  have h := AnyE.slices_Clone laysClone Try.t22 (.float .f64 0) 1 8 (by kernel_rfl) (by kernel_rfl) (by kernel_rfl) (by kernel_rfl) rfl (by decide) hz b off d.size c (d.toList.map encF) w (by simp) (by unfold maxLen; omega) (by omega) ?_ ?_
  · refine h.mono ?_
    rintro e w' ⟨v, rfl, hown, hne, hb⟩
    refine ⟨v, rfl, ?_, hb⟩
    rcases hown.2 with ⟨rfl, _⟩ | ⟨g, cap, cur, rfl, hg, hh, hn, hm, hs, ht⟩
    · exact absurd rfl hne
    · have hlt : g < w'.heap.size := by
        rcases Nat.lt_or_ge g w'.heap.size with a | a
        · exact a
        · rw [Array.getElem?_eq_none a] at hh; cases hh
      refine ⟨g, cap, rfl, hg, ?_, hn, hlt, hm⟩
      intro j hj
      have e1 : w'.cell? ⟨g, 0 + j, none⟩ = cur[j]? := by rw [Nat.zero_add]; exact cell_of_row w' g j cur 22 (0, 0) hh
      have e2 : cur[j]? = some (encF d[j]!) := by
        have : cur.toList[j]? = (d.toList.map encF)[j]? := by
          rw [← ht, List.getElem?_take_of_lt (by omega)]
        rw [← Array.getElem?_toList, this, List.getElem?_map]
        simp [hj]
      refine ⟨e1.trans e2, ?_⟩
      simp [World.frozen?, hh]
  · intro j u hu
    rw [List.getElem?_map] at hu
    have hj : j < d.size := by
      rcases Nat.lt_or_ge j d.size with a | a
      · exact a
      · rw [List.getElem?_eq_none (by simpa using a)] at hu; cases hu
    rw [hc j hj]
    simp [hj] at hu ⊢
    exact hu
  · intro u hu
    simp only [List.mem_map] at hu
    obtain ⟨x, _, rfl⟩ := hu
    rfl
end Go.Proofs.Ytoneofdihknnoaa
