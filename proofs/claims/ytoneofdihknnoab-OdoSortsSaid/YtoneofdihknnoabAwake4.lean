/- The chapter's examples. -/
import Derived.Test.YtoneofdihknnoabOdoMiddle
import Derived.Test.YtoneofdihknnoabOdoRefOrder
namespace Go.Proofs.Ytoneofdihknnoab
open Go.RowKit Go.Shelf Go.Sort Ieee

def d4 : Array UInt64 := #[4613937818241073152, 13830554455654793216, 4611686018427387904, 4619567317775286272]
def s4 : Array UInt64 := #[13830554455654793216, 4611686018427387904, 4613937818241073152, 4619567317775286272]
theorem in1 : insInner (ltOf cfF) 0 1 d4 = #[13830554455654793216, 4613937818241073152, 4611686018427387904, 4619567317775286272] := by decide +kernel
theorem in2 : insInner (ltOf cfF) 0 2 #[13830554455654793216, 4613937818241073152, 4611686018427387904, 4619567317775286272] = s4 := by decide +kernel
theorem in3 : insInner (ltOf cfF) 0 3 s4 = s4 := by decide +kernel
theorem isort4 : isort d4 = s4 := by
  show insOuter (ltOf cfF) 0 4 1 d4 = s4
  rw [insOuter_go _ _ _ _ _ (by decide), in1, insOuter_go _ _ _ _ _ (by decide), in2, insOuter_go _ _ _ _ _ (by decide), in3, insOuter_stop _ _ _ _ _ (by decide)]
theorem sorts4 : Sorts d4 s4 := by
  have := sort_small d4 (by decide) (by decide) (by rw [isort4]; rfl)
  rwa [isort4] at this
theorem mid4 : midF s4 = (4611686018427387904, true) := by decide +kernel
theorem whole_a : wholeV 4608308318706860032 = (12, 0) := by decide +kernel
theorem whole_b : wholeV 13831680355561635840 = (-13, 0) := by decide +kernel
theorem between_a : betweenV 4621819117588971520 4594572339843380019 = (98, 102, 0) := by decide +kernel
theorem quo_a : floatBits .quo .f64 4607182418800017408 0 = some 9218868437227405312 := by decide +kernel
theorem quo_b : floatBits .quo .f64 13830554455654793216 9218868437227405312 = some 9223372036854775808 := by decide +kernel
theorem less_a : decide (placeV 9223372036854775808 < placeV 0) = true := by decide +kernel
theorem less_b : decide (placeV 0 < placeV 9223372036854775808) = false := by decide +kernel
theorem eq_two : FloatKind.f64.format.order 4611686018427387904 4611686018427387904 = some .eq := by decide +kernel
theorem wholeA_k (w : World) : Calls Try.prog 13 #[.float .f64 4608308318706860032] w fun e w' => e = .returned (.tuple #[.int .i64 12, .int .i64 0]) ∧ Below w.heap.size w w' := by
  have := odwhole_k 4608308318706860032 w
  rwa [whole_a] at this
theorem wholeB_k (w : World) : Calls Try.prog 13 #[.float .f64 13831680355561635840] w fun e w' => e = .returned (.tuple #[.int .i64 (-13), .int .i64 0]) ∧ Below w.heap.size w w' := by
  have := odwhole_k 13831680355561635840 w
  rwa [whole_b] at this
theorem betweenA_k (w : World) : Calls Try.prog 14 #[.float .f64 4621819117588971520, .float .f64 4594572339843380019] w fun e w' => e = .returned (.tuple #[.int .i64 98, .int .i64 102, .int .i64 0]) ∧ Below w.heap.size w w' := by
  have := odbetween_k 4621819117588971520 4594572339843380019 w
  rwa [between_a] at this
theorem middleA_k (w : World) (b : Nat) (hb : b = w.heap.size) : Calls Try.prog 10 #[.slice (some ⟨b, 0, none⟩) 4 4] (w.alloc (.cells #[.float .f64 4613937818241073152, .float .f64 13830554455654793216, .float .f64 4611686018427387904, .float .f64 4619567317775286272] 26)) fun e w' => e = .returned (.tuple #[.float .f64 4611686018427387904, .bool true]) ∧ Below w.heap.size w w' := by
  subst hb
  have := middle_k d4 s4 sorts4 (by decide) w.heap.size 0 4 (w.alloc (.cells #[.float .f64 4613937818241073152, .float .f64 13830554455654793216, .float .f64 4611686018427387904, .float .f64 4619567317775286272] 26)) ?_
  · rw [mid4] at this
    refine this.mono ?_
    rintro e w' ⟨he, hb⟩
    exact ⟨he, ((Below.refl _ _).alloc (Nat.le_refl _) _).trans (hb.mono (by simp))⟩
  · intro j hj
    have hB : (w.alloc (.cells #[.float .f64 4613937818241073152, .float .f64 13830554455654793216, .float .f64 4611686018427387904, .float .f64 4619567317775286272] 26)).heap[w.heap.size]? = some (.cells #[.float .f64 4613937818241073152, .float .f64 13830554455654793216, .float .f64 4611686018427387904, .float .f64 4619567317775286272] 26 (0, 0)) := heap_alloc_new w _
    rw [Nat.zero_add, cell_of_row _ _ j _ _ _ hB]
    have hj4 : j < 4 := hj
    match j, hj4 with
    | 0, _ => rfl
    | 1, _ => rfl
    | 2, _ => rfl
    | 3, _ => rfl
theorem awake4_any (w : World) : Calls Try.prog 4 #[] w fun e w' => e = .returned (.bool true) ∧ Below w.heap.size w w' := by
  have hq1 := fun W t => run_float_arith (P := Try.prog) W .quo t .f64 4607182418800017408 0 _ quo_a
  have hq2 := fun W t => run_float_arith (P := Try.prog) W .quo t .f64 13830554455654793216 9218868437227405312 _ quo_b
  have hl1 : ∀ W, Calls Try.prog 15 #[.float .f64 9223372036854775808, .float .f64 0] W fun e w' => e = .returned (.bool true) ∧ W = w' := fun W => by
    have := odless_k 9223372036854775808 0 W (by decide) (by decide)
    rwa [less_a] at this
  have hl2 : ∀ W, Calls Try.prog 15 #[.float .f64 0, .float .f64 9223372036854775808] W fun e w' => e = .returned (.bool false) ∧ W = w' := fun W => by
    have := odless_k 0 9223372036854775808 W (by decide) (by decide)
    rwa [less_b] at this
  have he2 := eq_two
  go_enter Try.func4, Try.ntmps4
  go_wp2_with (first
    | (go_at_call 13; (first | (with_reducible refine (wholeA_k _).mono ?_; rintro e w1 ⟨rfl, hb1⟩) | (with_reducible refine (wholeB_k _).mono ?_; rintro e w2 ⟨rfl, hb2⟩)))
    | (go_at_call 14; (with_reducible refine (betweenA_k _).mono ?_); rintro e w3 ⟨rfl, hb3⟩)
    | (go_at_call 10; (with_reducible refine (middleA_k _ _ rfl).mono ?_); rintro e w4 ⟨rfl, hb4⟩)
    | (go_at_call 15; (first | (with_reducible refine (hl1 _).mono ?_) | (with_reducible refine (hl2 _).mono ?_)); rintro e w5 ⟨rfl, rfl⟩))
  go_ret
  exact ⟨rfl, hb1.trans ((hb2.mono hb1.size).trans ((hb3.mono (Nat.le_trans hb1.size hb2.size)).trans (hb4.mono (Nat.le_trans hb1.size (Nat.le_trans hb2.size hb3.size)))))⟩
end Go.Proofs.Ytoneofdihknnoab
