/- Texts in one: SpanA SpanB SpanD. -/
import Derived.Test.YtpjdcpicfkdioaaGreatDoorK06
import Derived.Test.YtpjdcpicfkdioaaGreatDoorK07
import Derived.Test.YtpjdcpicfkdioaaGreatDoorK09
import Derived.Shelf.SlSortCmp.NoneTotal
import Derived.Ground.SlsfProg
/- span: some; cmp.Compare, cmp.Or; the order of pieces. -/
set_option linter.unusedSimpArgs false
set_option linter.unusedVariables false
namespace Go.Proofs.YtpjdcpicfkdioaaGreatDoor
open Go.RowKit Go.Shelf Go.Sort

theorem some_k (s : Sp) (w : World) : Calls Tryz.prog 63 #[.agg #[.int .i64 s.edge, .int .i64 s.lo, .int .i64 s.hi]] w fun e w' => e = .returned (.bool (someT s)) ∧ Below w.heap.size w w' := by
  have hO : Own w _ [_] := (Own.nil w).alloc 83 #[.int .i64 s.edge, .int .i64 s.lo, .int .i64 s.hi] _ rfl
  have hcl := hO.b0.cell
  obtain ⟨s1, s2, s3⟩ := s
  have hr : someT ⟨s1, s2, s3⟩ = (decide (0 ≤ s1) && decide (0 ≤ s2) && decide (s2 < s3) && decide (s3 ≤ 1000000)) := rfl
  generalize someT ⟨s1, s2, s3⟩ = sb at *
  simp only at hO hcl ⊢
  by_cases h1 : 0 ≤ s1
  · have f1 : decide (0 ≤ s1) = true := by simpa using h1
    by_cases h2 : 0 ≤ s2
    · have f2 : decide (0 ≤ s2) = true := by simpa using h2
      by_cases h3 : s2 < s3
      · have f3 : decide (s2 < s3) = true := by simpa using h3
        rw [f1, f2, f3] at hr
        have HR := Lib.hid hr
        clear hr
        go_enter Tryz.func63, Tryz.ntmps63
        go_wp2_with fail
        go_ret
        exact ⟨by simp [HR.out], hO.below⟩
      · have f3 : decide (s2 < s3) = false := by simpa using h3
        obtain rfl : sb = false := by rw [hr, f1, f2, f3]; rfl
        clear hr
        go_enter Tryz.func63, Tryz.ntmps63
        go_wp2_with fail
        go_ret
        exact ⟨rfl, hO.below⟩
    · have f2 : decide (0 ≤ s2) = false := by simpa using h2
      obtain rfl : sb = false := by rw [hr, f1, f2]; rfl
      clear hr
      go_enter Tryz.func63, Tryz.ntmps63
      go_wp2_with fail
      go_ret
      exact ⟨rfl, hO.below⟩
  · have f1 : decide (0 ≤ s1) = false := by simpa using h1
    obtain rfl : sb = false := by rw [hr, f1]; rfl
    clear hr
    go_enter Tryz.func63, Tryz.ntmps63
    go_wp2_with fail
    go_ret
    exact ⟨rfl, hO.below⟩
theorem enter_norm1 : ∀ args w, (callFunc 62 args).run Tryz.prog w = .ok (.enter 62 args) w := enters_of Tryz.func62 (by kernel_rfl) (by rfl)
theorem enter_norm2 : ∀ args w, (callFunc 65 args).run Tryz.prog w = .ok (.enter 65 args) w := enters_of Tryz.func65 (by kernel_rfl) (by rfl)
theorem norm1_k (s : Sp) (w : World) : Calls Tryz.prog 62 #[.agg (encSp.enc s).toArray] w fun e w' => e = .returned (.bool (!someT s)) ∧ Below w.heap.size w w' := by
  have hs := fun W => some_k s W
  generalize someT s = sb at *
  obtain ⟨s1, s2, s3⟩ := s
  simp only [encSp] at hs ⊢
  have hO : Own w _ [_] := (Own.nil w).alloc 83 #[.int .i64 s1, .int .i64 s2, .int .i64 s3] _ rfl
  have hcl := hO.b0.cell
  go_enter Tryz.func62, Tryz.ntmps62
  go_wp2_with (first
    | (go_at_call 63; (with_reducible refine (hs _).mono ?_); rintro e w1 ⟨rfl, hb1⟩; replace hO := hO.grow hb1))
  go_ret
  exact ⟨rfl, hO.below⟩
def cmpI (x y : Int) : Int := if x < y then -1 else if y < x then 1 else 0
theorem nan_k (x : Int) (w : World) : Calls Tryz.prog 112 #[.int .i64 x] w fun e w' => e = .returned (.bool false) ∧ w' = w := by
  go_enter Tryz.func112, Tryz.ntmps112
  go_wp2_with fail
  go_ret
  exact ⟨by simp, rfl⟩
theorem compare_k (x y : Int) (w : World) : Calls Tryz.prog 67 #[.int .i64 x, .int .i64 y] w fun e w' => e = .returned (.int .i64 (cmpI x y)) ∧ w' = w := by
  have hn := fun a W => nan_k a W
  unfold cmpI
  by_cases h1 : x < y
  · have f1 : decide (x < y) = true := by simpa using h1
    rw [if_pos h1]
    go_enter Tryz.func67, Tryz.ntmps67
    go_wp2_with (first
      | (go_at_call 112; (with_reducible refine (hn _ _).mono ?_); rintro e w1 ⟨rfl, rfl⟩))
    go_ret
    exact ⟨rfl, rfl⟩
  · have f1 : decide (x < y) = false := by simpa using h1
    rw [if_neg h1]
    by_cases h2 : y < x
    · have f2 : decide (y < x) = true := by simpa using h2
      rw [if_pos h2]
      go_enter Tryz.func67, Tryz.ntmps67
      go_wp2_with (first
        | (go_at_call 112; (with_reducible refine (hn _ _).mono ?_); rintro e w1 ⟨rfl, rfl⟩))
      go_ret
      exact ⟨rfl, rfl⟩
    · have f2 : decide (y < x) = false := by simpa using h2
      rw [if_neg h2]
      go_enter Tryz.func67, Tryz.ntmps67
      go_wp2_with (first
        | (go_at_call 112; (with_reducible refine (hn _ _).mono ?_); rintro e w1 ⟨rfl, rfl⟩))
      go_ret
      exact ⟨rfl, rfl⟩
def orI (x y : Int) : Int := if x ≠ 0 then x else y
theorem or_k (g c : Nat) (x y : Int) (w : World) (h0 : w.cell? ⟨g, 0, none⟩ = some (.int .i64 x)) (h1 : w.cell? ⟨g, 1, none⟩ = some (.int .i64 y)) : Calls Tryz.prog 66 #[.slice (some ⟨g, 0, none⟩) 2 c] w fun e w' => e = .returned (.int .i64 (orI x y)) ∧ w' = w := by
  unfold orI
  by_cases hx : x = 0
  · rw [if_neg (by simpa using hx)]
    have e1 : (x != 0) = false := by simpa using hx
    by_cases hy : y = 0
    · have e2 : (y != 0) = false := by simpa using hy
      subst hx
      subst hy
      go_enter Tryz.func66, Tryz.ntmps66
      go_wp2_with fail
      refine wp_loop_rounds 3 ?_
      rw [rounds_succ]
      go_wp2_with fail
      rw [rounds_succ]
      go_wp2_with fail
      rw [rounds_succ]
      go_wp2_with fail
      go_ret
      exact ⟨rfl, rfl⟩
    · have e2 : (y != 0) = true := by simpa using hy
      subst hx
      clear hy
      go_enter Tryz.func66, Tryz.ntmps66
      go_wp2_with fail
      refine wp_loop_rounds 2 ?_
      rw [rounds_succ]
      go_wp2_with fail
      rw [rounds_succ]
      go_wp2_with fail
      go_ret
      exact ⟨rfl, rfl⟩
  · rw [if_pos hx]
    have e1 : (x != 0) = true := by simpa using hx
    clear hx
    go_enter Tryz.func66, Tryz.ntmps66
    go_wp2_with fail
    refine wp_loop_rounds 1 ?_
    rw [rounds_succ]
    go_wp2_with fail
    go_ret
    exact ⟨rfl, rfl⟩
def cfSp (a b : Sp) : Int := orI (cmpI a.edge b.edge) (cmpI a.lo b.lo)
def rowB (A : Option Addr) : Option Nat := A.map (·.block)
theorem grown_block {w W W' : World} {g : Nat} (h : w.grownBy W (some g)) (hz : W'.heap.size = W.heap.size) (hk : ∀ k, k ≠ g → W'.heap[k]? = W.heap[k]?) (he : W'.os = W.os ∧ W'.tape = W.tape ∧ W'.output = W.output) : w.grownBy W' (some g) :=
  ⟨he.1.trans h.os, he.2.1.trans h.tape, he.2.2.trans h.output, by rw [hz]; exact h.size, fun i hi hne => (hk i (fun e => hne (by rw [e]))).trans (h.block i hi hne)⟩
theorem grown_then {w W W' : World} {r : Option Nat} (h : w.grownBy W r) (hb : Below W.heap.size W W') : w.grownBy W' r :=
  ⟨hb.os.trans h.os, hb.tape.trans h.tape, hb.output.trans h.output, Nat.le_trans h.size hb.size, fun i hi hne => (hb.block i (Nat.lt_of_lt_of_le hi h.size)).trans (h.block i hi hne)⟩
theorem OwnRows.base {α : Type} {E : Laid α} {t : TypeId} {w : World} {B B' : Nat} {A : Option Addr} {c : Nat} {xs : List α} (h : OwnRows E t w B A c xs) (hB : B' ≤ B) : OwnRows E t w B' A c xs :=
  ⟨h.1, h.2.imp id fun ⟨g, cap, cur, e, h1, r⟩ => ⟨g, cap, cur, e, Nat.le_trans hB h1, r⟩⟩
theorem below_grown {α : Type} {E : Laid α} {t : TypeId} {B : Nat} {w0 w w' : World} {A : Option Addr} {c : Nat} {xs : List α} (h : Below B w0 w) (ho : OwnRows E t w B A c xs) (hBw : B ≤ w.heap.size) (hg : w.grownBy w' (rowB A)) : Below B w0 w' := by
  refine h.trans ⟨hg.os, hg.tape, hg.output, hg.size, fun k hk => hg.block k (by omega) fun e => ?_⟩
  cases A with
  | none => cases e
  | some a =>
    obtain ⟨g, cur, e', h1, _⟩ := ho.blk (by simp)
    simp only [Option.some.injEq] at e'
    subst e'
    simp only [rowB, Option.map_some, Option.some.injEq] at e
    omega
theorem rowSp_one {w : World} {g : Nat} {a b c : Int} (h : Blk w g 83 #[.int .i64 a, .int .i64 b, .int .i64 c]) : RowsAt encSp w (some ⟨g, 0, none⟩) [⟨a, b, c⟩] := fun _ => ⟨g, 0, rfl, h.lt, fun j u hu => by
  rw [Nat.zero_add, h.cell, ← Array.getElem?_toList]
  exact hu⟩
theorem Own.grown {w W W' : World} {L : List Bk} {R : Option Nat} (h : Own w W L) (hg : W.grownBy W' R) (hR : ∀ g, R = some g → w.heap.size ≤ g ∧ ∀ x ∈ L, x.1 ≠ g) : Own w W' L := by
  refine ⟨h.below.trans ⟨hg.os, hg.tape, hg.output, hg.size, fun k hk => hg.block k (Nat.lt_of_lt_of_le hk h.below.size) ?_⟩, fun x hx => ⟨(h.blk x hx).1, ?_⟩, h.nodup⟩
  · intro e
    have := (hR k (by first | exact e | exact e.symm)).1
    omega
  · have hb := (h.blk x hx).2
    exact (hg.block x.1 hb.lt (fun e => (hR x.1 (by first | exact e | exact e.symm)).2 x hx rfl)).trans hb
end Go.Proofs.YtpjdcpicfkdioaaGreatDoor
/- The order of pieces, as the library's sort asks for it. -/
set_option linter.unusedSimpArgs false
set_option linter.unusedVariables false
namespace Go.Proofs.YtpjdcpicfkdioaaGreatDoor
open Go.RowKit Go.Shelf Go.Sort
def laysSortSp_ren : Go.Shelf.Ren := ⟨fun | 6 => 64 | 15 => 111 | 14 => 110 | 28 => 172 | 29 => 173 | 20 => 164 | 21 => 165 | 22 => 166 | 23 => 167 | 24 => 168 | 25 => 169 | 26 => 170 | 27 => 171 | 46 => 216 | 47 => 217 | 48 => 218 | 49 => 219 | 50 => 220 | 57 => 250 | n => n, fun | 22 => 54 | 24 => 83 | 25 => 141 | 3 => 3 | 39 => 195 | 0 => 0 | 53 => 30 | 55 => 113 | 4 => 4 | 46 => 251 | 45 => 250 | 50 => 62 | 5 => 5 | 9 => 9 | 66 => 307 | 70 => 311 | 76 => 336 | 77 => 337 | n => n, fun | n => n⟩
theorem laysSortSp : Go.Proofs.SlLaysF0.n6 Tryz.prog laysSortSp_ren where
  mixed := by kernel_rfl
  f6 := ⟨"slices.SortFunc[[]lineside/api.Span,lineside/api.Span]", by decide, Tryz.func64.trans (congrArg some (by kernel_rfl))⟩
  f14 := ⟨"slices.pdqsortCmpFunc[lineside/api.Span]", by decide, Tryz.func110.trans (congrArg some (by kernel_rfl))⟩
  f15 := Tryz.func111.trans (congrArg some (by kernel_rfl))
  f20 := ⟨"slices.insertionSortCmpFunc[lineside/api.Span]", by decide, Tryz.func164.trans (congrArg some (by kernel_rfl))⟩
  f21 := ⟨"slices.heapSortCmpFunc[lineside/api.Span]", by decide, Tryz.func165.trans (congrArg some (by kernel_rfl))⟩
  f22 := ⟨"slices.breakPatternsCmpFunc[lineside/api.Span]", by decide, Tryz.func166.trans (congrArg some (by kernel_rfl))⟩
  f23 := ⟨"slices.choosePivotCmpFunc[lineside/api.Span]", by decide, Tryz.func167.trans (congrArg some (by kernel_rfl))⟩
  f24 := ⟨"slices.reverseRangeCmpFunc[lineside/api.Span]", by decide, Tryz.func168.trans (congrArg some (by kernel_rfl))⟩
  f25 := ⟨"slices.partialInsertionSortCmpFunc[lineside/api.Span]", by decide, Tryz.func169.trans (congrArg some (by kernel_rfl))⟩
  f26 := ⟨"slices.partitionEqualCmpFunc[lineside/api.Span]", by decide, Tryz.func170.trans (congrArg some (by kernel_rfl))⟩
  f27 := ⟨"slices.partitionCmpFunc[lineside/api.Span]", by decide, Tryz.func171.trans (congrArg some (by kernel_rfl))⟩
  f28 := Tryz.func172.trans (congrArg some (by kernel_rfl))
  f29 := Tryz.func173.trans (congrArg some (by kernel_rfl))
  f46 := ⟨"slices.siftDownCmpFunc[lineside/api.Span]", by decide, Tryz.func216.trans (congrArg some (by kernel_rfl))⟩
  f47 := Tryz.func217.trans (congrArg some (by kernel_rfl))
  f48 := Tryz.func218.trans (congrArg some (by kernel_rfl))
  f49 := ⟨"slices.medianAdjacentCmpFunc[lineside/api.Span]", by decide, Tryz.func219.trans (congrArg some (by kernel_rfl))⟩
  f50 := ⟨"slices.medianCmpFunc[lineside/api.Span]", by decide, Tryz.func220.trans (congrArg some (by kernel_rfl))⟩
  f57 := ⟨"slices.order2CmpFunc[lineside/api.Span]", by decide, Tryz.func250.trans (congrArg some (by kernel_rfl))⟩
  t0 := Tryz.underlying0
  a0 := Tryz.isAgg0
  z0 := Tryz.sizeOf0
  v0 := Tryz.zeroValue0
  t3 := Tryz.underlying3
  a3 := Tryz.isAgg3
  z3 := Tryz.sizeOf3
  v3 := Tryz.zeroValue3
  t4 := Tryz.underlying4
  a4 := Tryz.isAgg4
  z4 := Tryz.sizeOf4
  v4 := Tryz.zeroValue4
  t5 := Tryz.underlying5
  a5 := Tryz.isAgg5
  z5 := Tryz.sizeOf5
  v5 := Tryz.zeroValue5
  t9 := Tryz.underlying9
  a9 := Tryz.isAgg9
  z9 := Tryz.sizeOf9
  v9 := Tryz.zeroValue9
  t22 := Tryz.underlying54
  a22 := Tryz.isAgg54
  z22 := Tryz.sizeOf54
  v22 := Tryz.zeroValue54
  t25 := Tryz.underlying141
  a25 := Tryz.isAgg141
  z25 := Tryz.sizeOf141
  v25 := Tryz.zeroValue141
  t39 := Tryz.underlying195
  a39 := Tryz.isAgg195
  z39 := Tryz.sizeOf195
  v39 := Tryz.zeroValue195
  t45 := Tryz.underlying250
  a45 := Tryz.isAgg250
  z45 := Tryz.sizeOf250
  v45 := Tryz.zeroValue250
  t46 := Tryz.underlying251
  a46 := Tryz.isAgg251
  z46 := Tryz.sizeOf251
  v46 := Tryz.zeroValue251
  t50 := Tryz.underlying62
  a50 := Tryz.isAgg62
  z50 := Tryz.sizeOf62
  v50 := Tryz.zeroValue62
  t53 := Tryz.underlying30
  a53 := Tryz.isAgg30
  z53 := Tryz.sizeOf30
  v53 := Tryz.zeroValue30
  t55 := Tryz.underlying113
  a55 := Tryz.isAgg113
  z55 := Tryz.sizeOf113
  v55 := Tryz.zeroValue113
  t66 := Tryz.underlying307
  a66 := Tryz.isAgg307
  z66 := Tryz.sizeOf307
  v66 := Tryz.zeroValue307
  t70 := Tryz.underlying311
  a70 := Tryz.isAgg311
  z70 := Tryz.sizeOf311
  v70 := Tryz.zeroValue311
  t76 := Tryz.underlying336
  a76 := Tryz.isAgg336
  z76 := Tryz.sizeOf336
  v76 := Tryz.zeroValue336
  t77 := Tryz.underlying337
  a77 := Tryz.isAgg337
  z77 := Tryz.sizeOf337
  v77 := Tryz.zeroValue337
set_option maxHeartbeats 2000000 in
theorem norm2_k (a b : Sp) (w : World) : Calls Tryz.prog 65 #[.agg (encSp.enc a).toArray, .agg (encSp.enc b).toArray] w fun e w' => e = .returned (.int .i64 (cfSp a b)) ∧ GrowsD w w' := by
  obtain ⟨a1, a2, a3⟩ := a
  obtain ⟨b1, b2, b3⟩ := b
  have hc := fun x y W => compare_k x y W
  have ho := fun g x y W h0 h1 => or_k g 2 x y W h0 h1
  have hO : Own w _ [_, _] := Own.start2 w 83 83 #[.int .i64 a1, .int .i64 a2, .int .i64 a3] #[.int .i64 b1, .int .i64 b2, .int .i64 b3]
  have hG : GrowsD w ((w.alloc (.cells #[.int .i64 a1, .int .i64 a2, .int .i64 a3] 83)).alloc (.cells #[.int .i64 b1, .int .i64 b2, .int .i64 b3] 83)) := (GrowsD.alloc _ _).trans (GrowsD.alloc _ _)
  unfold cfSp
  simp only [encSp]
  go_enter Tryz.func65, Tryz.ntmps65
  go_wp2_with fail
  generalize ((w.alloc (.cells #[.int .i64 a1, .int .i64 a2, .int .i64 a3] 83)).alloc (.cells #[.int .i64 b1, .int .i64 b2, .int .i64 b3] 83)) = W0 at hO hG ⊢
  apply wp_region_lextu GrowsD (fun W => GrowsD.drew W) (fun _ _ _ h1 h2 => h1.trans h2) (fun _ => GrowsD) (fun _ _ _ h => h) (fun _ W => GrowsD.refl W) (fun _ _ => True) (fun _ => trivial) (fun _ _ _ _ _ _ _ => trivial)
  case hFl =>
    intro u
    simp only [List.map, fill, Act.put, List.setIfInBounds_toArray, List.set_cons_zero, List.set_cons_succ, Nat.reduceAdd, Nat.zero_add]
    rfl
  case hm => kernel_rfl
  case hB => kernel_rfl
  case hA => kernel_rfl
  case hap => kernel_rfl
  repeat (first
    | (apply LexTU.is
       · (intro u w' hkg hpre hd
          have hk := hkg.below
          simp [WaitedU, Region.binds, Own1, Is] at hd
          refine lookedT_want ?_ ?_
          · first
            | rfl
            | (simp [Region.wanted, yielded, hd]; done)
          intro K hK
          have hO2 := hO.grow hk; have hca := hO2.b0.cell; have hcb := hO2.b1.cell
          go_wp2_with (go_at_call 67; (with_reducible refine (hc _ _ _).mono ?_); rintro e w3 ⟨rfl, rfl⟩)
          try simp only [hd] at hK
          refine hK _ _ ?_ rfl
          first | exact GrowsD.refl _ | exact hb3))
    | (refine LexTU.one (TwoW (cmpI a1 b1) (cmpI a2 b2)) ?_ ?_
       · (intro u w' hkg hpre hd
          have hk := hkg.below
          simp [WaitedU, Region.binds, Own1, Is] at hd
          refine lookedT_want ?_ ?_
          · first
            | rfl
            | (simp [Region.wanted, yielded, hd]; done)
          intro K hK
          go_wp2_with fail
          try simp only [hd] at hK
          refine hK _ _ (GrowsD.alloc _ _) ⟨w'.heap.size, rfl, ?_, ?_, ?_⟩
          all_goals simp))
    | (apply LexTU.is
       · (intro u w' hkg hpre hd
          have hk := hkg.below
          simp [WaitedU, Region.binds, Own1, Is] at hd
          first
          | obtain ⟨⟨g, hx, hlt, h0, h1⟩, -⟩ := hd
          | obtain ⟨g, hx, hlt, h0, h1⟩ := hd
          refine lookedT_want ?_ ?_
          · first
            | rfl
            | (simp [Region.wanted, yielded, hx]; done)
          intro K hK
          go_wp2_with (go_at_call 66; (with_reducible refine (ho _ _ _ _ h0 h1).mono ?_); rintro e w3 ⟨rfl, rfl⟩)
          try simp only [hx] at hK
          refine hK _ _ (GrowsD.refl _) rfl)))
  refine LexTU.last (stG_last ?_) ?_
  · simp only [List.nil_append, List.cons_append]
    repeat (refine ⟨?_, ?_⟩; · first | exact stableG_is _ | exact stableG_two)
    exact trivial
  intro u w2 hk2 _ hd
  simp only [List.nil_append, List.cons_append] at hd
  refine ⟨rfl, ?_⟩
  intro K hK
  have hl := hd 11 _ rfl
  simp only [Own1, Is] at hl
  clear hd
  go_wp2_with fail
  go_ret
  exact ⟨congrArg Ending.returned hl, hG.trans hk2⟩
end Go.Proofs.YtpjdcpicfkdioaaGreatDoor
/- slices.DeleteFunc of pieces, in a row of the call's own. -/
set_option linter.unusedSimpArgs false
set_option linter.unusedVariables false
namespace Go.Proofs.YtpjdcpicfkdioaaGreatDoor
open Go.RowKit Go.Shelf Go.Sort

theorem putAt_toList : ∀ (vs : List Value) (a : Array Value) (o : Nat), o + vs.length ≤ a.size → (putAt a o vs).toList = a.toList.take o ++ vs ++ a.toList.drop (o + vs.length)
  | [], a, o, _ => by simp [putAt]
  | v :: vs, a, o, h => by
    simp only [List.length_cons] at h
    rw [putAt, putAt_toList vs (a.setIfInBounds o v) (o + 1) (by simp; omega)]
    have e1 : (a.setIfInBounds o v).toList.take (o + 1) = a.toList.take o ++ [v] := by
      rw [Array.toList_setIfInBounds, List.take_set, List.take_succ_eq_append_getElem (show o < a.toList.length by simp; omega)]
      rw [List.set_append_right _ _ (by simp; omega)]
      simp [Nat.min_eq_left (show o ≤ a.size by omega)]
    have e2 : (a.setIfInBounds o v).toList.drop (o + 1 + vs.length) = a.toList.drop (o + (v :: vs).length) := by
      rw [Array.toList_setIfInBounds, List.drop_set_of_lt (by omega)]
      congr 1
      simp only [List.length_cons]
      omega
    rw [e1, e2]
    simp
theorem take_mid (L V : List Value) (o N : Nat) (h1 : o + V.length ≤ N) (h2 : N ≤ L.length) : (L.take o ++ V ++ L.drop (o + V.length)).take N = (L.take N).take o ++ V ++ (L.take N).drop (o + V.length) := by
  have hA : (L.take o ++ V).length = o + V.length := by rw [List.length_append, List.length_take]; omega
  rw [List.take_append, List.take_of_length_le (by omega), hA, List.take_take, Nat.min_eq_left (by omega), List.drop_take]
theorem putAt_size : ∀ (vs : List Value) (a : Array Value) (o : Nat), (putAt a o vs).size = a.size
  | [], _, _ => rfl
  | v :: vs, a, o => by rw [putAt, putAt_size vs]; simp
section
variable {α : Type} {E : Laid α} {t : TypeId} {w w' : World} {base g c : Nat} {xs : List α}
theorem Laid.flat_set (xs : List α) {i : Nat} (hi : i < xs.length) (v : α) : E.flat (xs.set i v) = (E.flat xs).take (i * E.k) ++ E.enc v ++ (E.flat xs).drop (i * E.k + E.k) := by
  rw [List.set_eq_take_append_cons_drop, if_pos hi, E.flat_append, E.flat_cons, E.flat_take, show i * E.k + E.k = (i + 1) * E.k by rw [Nat.add_mul]; omega, E.flat_drop]
  simp
/-- A row of the own, one element of which was stored. -/
theorem OwnRows.put (ho : OwnRows E t w base (some ⟨g, 0, none⟩) c xs) {i : Nat} (hi : i < xs.length) (v : α) {cur : Array Value} (hb : Blk w g t cur) (hb' : Blk w' g t (putAt cur (i * E.k) (E.enc v))) : OwnRows E t w' base (some ⟨g, 0, none⟩) c (xs.set i v) := by
  obtain ⟨g', cur', e, h1, h2, h3, h4, h5, h6⟩ := ho.blk (by simp)
  simp only [Option.some.injEq, Addr.mk.injEq] at e
  obtain ⟨rfl, -, -⟩ := e
  have hcc : cur' = cur := by
    unfold Blk at h2 hb
    rw [hb] at h2
    simp at h2
    exact h2.symm
  subst hcc
  have hk := E.pos
  have hik : i * E.k + E.k ≤ xs.length * E.k := by
    rw [show i * E.k + E.k = (i + 1) * E.k by rw [Nat.add_mul]; omega]
    exact Nat.mul_le_mul_right _ hi
  have hxc : xs.length * E.k ≤ c * E.k := Nat.mul_le_mul_right _ h4
  have hsz : (cur'.toList).length = c * E.k := by rw [Array.length_toList, h3]
  refine ⟨by rw [E.flat_length], .inr ⟨g, c, putAt cur' (i * E.k) (E.enc v), by simp, h1, hb', by simpa using h4, h5, by rw [putAt_size, h3], ?_⟩⟩
  rw [List.length_set, putAt_toList _ _ _ (by rw [E.len, h3]; omega), E.flat_set xs hi, ← h6, E.len]
  have hmid := take_mid cur'.toList (E.enc v) (i * E.k) (xs.length * E.k) (by rw [E.len]; exact hik) (by rw [hsz]; exact hxc)
  rw [E.len] at hmid
  exact hmid
/-- A row of the own, what stands ahead in it. -/
theorem OwnRows.ahead (ho : OwnRows E t w base (some ⟨g, 0, none⟩) c xs) (i : Nat) (hi : i ≤ xs.length) {cur cur' : Array Value} (hb : Blk w g t cur) (hb' : Blk w' g t cur') (hs : cur'.size = cur.size) (ht : cur'.toList.take (i * E.k) = cur.toList.take (i * E.k)) : OwnRows E t w' base (some ⟨g, 0, none⟩) c (xs.take i) := by
  obtain ⟨g', cur2, e, h1, h2, h3, h4, h5, h6⟩ := ho.blk (by simp)
  simp only [Option.some.injEq, Addr.mk.injEq] at e
  obtain ⟨rfl, -, -⟩ := e
  have hcc : cur2 = cur := by
    unfold Blk at h2 hb
    rw [hb] at h2
    simp at h2
    exact h2.symm
  subst hcc
  have hl : (xs.take i).length = i := by simp; omega
  refine ⟨by rw [E.flat_length], .inr ⟨g, c, cur', by simp, h1, hb', by rw [hl]; omega, h5, by rw [hs, h3], ?_⟩⟩
  rw [hl, ht, ← E.flat_take, ← h6, List.take_take, Nat.min_eq_left]
  exact Nat.mul_le_mul_right _ hi
end
theorem span_zero (w : World) : (zeroValue 83).run Tryz.prog w = .ok (.agg #[.int .i64 0, .int .i64 0, .int .i64 0]) w := by
  have h : (Tryz.prog.info? 83).map (·.zero) = some (some (.agg #[.int .i64 0, .int .i64 0, .int .i64 0])) := by kernel_rfl
  cases hq : Tryz.prog.info? 83 with
  | none => rw [hq] at h; cases h
  | some j =>
    have hj : j.zero = some (.agg #[.int .i64 0, .int .i64 0, .int .i64 0]) := by simpa [hq] using h
    simp [zeroValue, typeInfo, hq, hj]
def layS (cur : Array Value) (o : Nat) (cs : List Value) : Array Value := (cur.toList.take o ++ cs ++ cur.toList.drop (o + cs.length)).toArray
def zerosS (m : Nat) : List Value := (Builtin.zeroCells (Value.cells (.agg #[.int .i64 0, .int .i64 0, .int .i64 0])) m).toList
theorem zerosS_len (m : Nat) : (zerosS m).length = m * 3 := by simp [zerosS, Builtin.zeroCells, Value.cells]
theorem zerosS_one (m : Nat) : ∀ v ∈ zerosS m, v.oneCell' = true := by
  intro v hv
  simp only [zerosS, Builtin.zeroCells, Value.cells] at hv
  simp at hv
  obtain ⟨a, _, rfl⟩ := hv
  have h3 : a % 3 = 0 ∨ a % 3 = 1 ∨ a % 3 = 2 := by omega
  rcases h3 with h | h | h <;> rw [h] <;> rfl
theorem run_clear_s {w : World} {ty : TypeId} (g o m c : Nat) (cur : Array Value) (hg : Blk w g 83 cur) (hm : 0 < m) (hfit : o + m * 3 ≤ cur.size) :
    (Builtin.clear_ #[54] ty #[.slice (some ⟨g, o, none⟩) m c]).run Tryz.prog w = .ok (.tuple #[]) (w.setRow g (layS cur o (zerosS m))) := by
  have hst := run_storeCells_at Tryz.prog g o 83 (zerosS m) 0 cur w hg (by rw [zerosS_len]; omega) (zerosS_one m)
  simp only [Nat.add_zero] at hst
  have hz := span_zero w
  have hm0 : m ≠ 0 := by omega
  cases m with
  | zero => omega
  | succ m =>
    simp only [zerosS] at hst
    simp [Builtin.clear_, run_underlying Tryz.underlying54, hz, hst, layS, zerosS]
theorem wpList_clear_s {ops : Array Oper} {rest : List Oper} {o : Oper} {a : Act} {w : World} {Q : Exit → Act → World → Prop} (hgd : o.guard = none) (s : Operand) (ho : o.op = .call { callee := .builtin .clear, args := #[s], argTypes := #[54] })
    (g off m c : Nat) (hs : a.eval s = .slice (some ⟨g, off, none⟩) m c) (cur : Array Value) (hg : Blk w g 83 cur) (hm : 0 < m) (hfit : off + m * 3 ≤ cur.size)
    (h : ∀ W, Blk W g 83 (layS cur off (zerosS m)) → W.heap.size = w.heap.size → (∀ k, k ≠ g → W.heap[k]? = w.heap[k]?) → W.os = w.os ∧ W.tape = w.tape ∧ W.output = w.output → wpList Tryz.prog ops Q rest (a.put o.dst (.tuple #[])) W) : wpList Tryz.prog ops Q (o :: rest) a w := by
  refine wpList_plain hgd fun K hK => ?_
  have hrun := run_clear_s (ty := o.type) g off m c cur hg hm hfit
  unfold Oper.wp
  simp [execOp, ho, resolve, invoke, builtin, hs, hrun, Result.andThen]
  exact hK _ _ (h _ (Blk.row hg _) (by simp) (fun k hk => setRow_other w g k _ hk) ⟨rfl, rfl, rfl⟩)
theorem span_elem : Tryz.prog.elem 54 = 83 := by kernel_rfl
theorem span_of' : Tryz.prog.underlying 54 = some (.slice (Tryz.prog.elem 54)) := by rw [span_elem]; exact Tryz.underlying54
theorem span_size (w : World) : (sizeOf 83).run Tryz.prog w = .ok 3 w := Tryz.sizeOf83 w
theorem add0s (g i : Nat) : (⟨g, 0, none⟩ : Addr).add i = ⟨g, i, none⟩ := by rw [Addr.add_lit]; simp
theorem slice_s_l (w : World) (g len cap i : Nat) (h1 : i ≤ len) (h2 : i < cap) (h3 : len ≤ cap) : (Instr.slice 54 (.slice (some ⟨g, 0, none⟩) len cap) (some (.int .i64 (i : Int))) none none).run Tryz.prog w = .ok (.slice (some ⟨g, i * 3, none⟩) (len - i) (cap - i)) w := by
  rw [run_slice_l w 54 (some ⟨g, 0, none⟩) len cap span_of' .i64 i (by omega) (by omega), span_elem, span_size]
  simp [Result.andThen, sliced, add0s]
  omega
theorem slice_s_h (w : World) (g len cap i : Nat) (h1 : i ≤ cap) : (Instr.slice 54 (.slice (some ⟨g, 0, none⟩) len cap) none (some (.int .i64 (i : Int))) none).run Tryz.prog w = .ok (.slice (some ⟨g, 0, none⟩) i cap) w := by
  rw [run_slice_h w 54 (some ⟨g, 0, none⟩) len cap span_of' .i64 i (by omega) (by omega), span_elem, span_size]
  simp [Result.andThen, sliced, add0s]
end Go.Proofs.YtpjdcpicfkdioaaGreatDoor
