/- Texts in one: DocSpan RegionR. -/
import Derived.Test.YtkaggddmhjifjaaGreatDoorK33
import Derived.Test.YtkaggddmhjifjaaGreatDoorK04
import Derived.Test.YtkaggddmhjifjaaGreatDoorK08
import Derived.Test.YtkaggddmhjifjaaGreatDoorK29
import Derived.Test.YtkaggddmhjifjaaGreatDoorK06
set_option linter.unusedSimpArgs false
set_option linter.unusedVariables false
namespace Go.Proofs.YtkaggddmhjifjaaGreatDoor
open Go.RowKit Go.Shelf
theorem RowsAt.sp {w : World} {A : Option Addr} {xs : List Sp} (h : RowsAt encSp w A xs) {i : Nat} {s : Sp} (hs : xs[i]? = some s) : ∃ b off, A = some ⟨b, off, none⟩ ∧ b < w.heap.size ∧ w.cell? ⟨b, off + i * 3, none⟩ = some (.int .i64 s.edge) ∧ w.cell? ⟨b, off + i * 3 + 1, none⟩ = some (.int .i64 s.lo) ∧ w.cell? ⟨b, off + i * 3 + 2, none⟩ = some (.int .i64 s.hi) := by
 obtain ⟨b, off, e, hb, hc⟩ := h.get hs
 exact ⟨b, off, e, hb, hc 0 _ rfl, hc 1 _ rfl, hc 2 _ rfl⟩
theorem has_take {l : List Sp} {k : Nat} {s : Sp} {e x : Int} (h : l[k]? = some s) : hasT (l.take (k + 1)) e x = (hasT (l.take k) e x || inSp s e x) := by
 unfold hasT
 rw [take_snoc' h, List.any_append]
 simp
theorem has_mono {l : List Sp} {k : Nat} {e x : Int} (h : hasT (l.take k) e x = true) : hasT l e x = true := by
 unfold hasT at *
 rw [List.any_eq_true] at h ⊢
 obtain ⟨y, hy, hd⟩ := h
 exact ⟨y, List.mem_of_mem_take hy, hd⟩
set_option maxHeartbeats 4000000 in
theorem rhas_k (A : Option Addr) (n c : Nat) (l : List Sp) (e x : Int) (w : World) (hp : RowsAt encSp w A l) (hn : l.length = n) (hl : n ≤ 1000) : Calls Tryz.prog 231 #[.slice A n c, .int .i64 e, .int .i64 x] w fun r w' => r = .returned (.bool (hasT l e x)) ∧ Below w.heap.size w w' := by
 have HN := Lib.hid hn
 clear hn
 go_enter Tryz.func231, Tryz.ntmps231
 go_wp2
 go_loopw [7] (fun i wr => ∃ k : Nat, i = .int .i64 k ∧ k ≤ n ∧ Hid (hasT (l.take k) e x = false) ∧ Below w.heap.size w wr) (fun i _ => n - (intOf i).toNat)
 case atStart => exact ⟨0, rfl, Nat.zero_le _, Lib.hid rfl, Below.refl _ _⟩
 case round =>
  obtain ⟨k, rfl, hk, hap, hw⟩ := hrel
  by_cases hlt : k < n
  ·
   have hdc : decide ((k : Int) < (n : Int)) = true := by simpa using hlt
   obtain ⟨s, hs⟩ := get_some HN.out hlt
   obtain ⟨g, off, rfl, hg, a0, a1, a2⟩ := hp.sp hs
   have k0 := (hw.cell (p := ⟨g, off + k * 3, none⟩) hg).trans a0
   have k1 := (hw.cell (p := ⟨g, off + k * 3 + 1, none⟩) hg).trans a1
   have k2 := (hw.cell (p := ⟨g, off + k * 3 + 2, none⟩) hg).trans a2
   have hst := has_take (e := e) (x := x) hs
   rw [hap.out, Bool.false_or] at hst
   have hin : inSp s e x = (decide (0 ≤ s.edge) && decide (0 ≤ s.lo) && decide (s.hi ≤ 1000000) && decide (s.edge = e) && decide (s.lo ≤ x) && decide (x < s.hi)) := rfl
   obtain ⟨y1, y2, y3⟩ := s
   simp only at k0 k1 k2 hin
   have hO1 : Own wr _ [_] := (Own.nil wr).alloc 75 #[.int .i64 y1, .int .i64 y2, .int .i64 y3] _ rfl
   have hcm := hO1.b0.cell
   clear hs a0 a1 a2 hap
   generalize inSp ⟨y1, y2, y3⟩ e x = iv at *
   by_cases h1 : 0 ≤ y1
   ·
    have f1 : decide (0 ≤ y1) = true := by simpa using h1
    by_cases h2 : 0 ≤ y2
    ·
     have f2 : decide (0 ≤ y2) = true := by simpa using h2
     by_cases h3 : y3 ≤ 1000000
     ·
      have f3 : decide (y3 ≤ 1000000) = true := by simpa using h3
      by_cases h4 : y1 = e
      ·
       have f4 : (y1 == e) = true := by simpa using h4
       replace h4 := Lib.hid h4
       by_cases h5 : y2 ≤ x
       ·
        have f5 : decide (y2 ≤ x) = true := by simpa using h5
        by_cases h6 : x < y3
        ·
         have f6 : decide (x < y3) = true := by simpa using h6
         have hyes : iv = true := by rw [hin, f1, f2, f3, f5, f6, decide_eq_true h4.out]; rfl
         have HY := Lib.hid (has_mono (hst.trans hyes))
         clear hst hin hyes
         go_wp2_with fail
         go_ret
         exact ⟨by simp [HY.out], below_then hw hO1.below⟩
        ·
         have f6 : decide (x < y3) = false := by simpa using h6
         have hno : iv = false := by rw [hin, f6]; simp
         clear hin
         have HST := Lib.hid (hst.trans hno)
         clear hst hno
         go_wp2_with fail
         go_roundw
         case rel => exact ⟨k + 1, by go_num, by omega, HST, below_then hw hO1.below⟩
         case measure => simp [intOf]; omega
       ·
        have f5 : decide (y2 ≤ x) = false := by simpa using h5
        have hno : iv = false := by rw [hin, f5]; simp
        clear hin
        have HST := Lib.hid (hst.trans hno)
        clear hst hno
        go_wp2_with fail
        go_roundw
        case rel => exact ⟨k + 1, by go_num, by omega, HST, below_then hw hO1.below⟩
        case measure => simp [intOf]; omega
      ·
       have f4 : (y1 == e) = false := by simpa using h4
       have hno : iv = false := by rw [hin, decide_eq_false h4]; simp
       clear hin
       have HST := Lib.hid (hst.trans hno)
       clear hst hno
       go_wp2_with fail
       go_roundw
       case rel => exact ⟨k + 1, by go_num, by omega, HST, below_then hw hO1.below⟩
       case measure => simp [intOf]; omega
     ·
      have f3 : decide (y3 ≤ 1000000) = false := by simpa using h3
      have hno : iv = false := by rw [hin, f3]; simp
      clear hin
      have HST := Lib.hid (hst.trans hno)
      clear hst hno
      go_wp2_with fail
      go_roundw
      case rel => exact ⟨k + 1, by go_num, by omega, HST, below_then hw hO1.below⟩
      case measure => simp [intOf]; omega
    ·
     have f2 : decide (0 ≤ y2) = false := by simpa using h2
     have hno : iv = false := by rw [hin, f2]; simp
     clear hin
     have HST := Lib.hid (hst.trans hno)
     clear hst hno
     go_wp2_with fail
     go_roundw
     case rel => exact ⟨k + 1, by go_num, by omega, HST, below_then hw hO1.below⟩
     case measure => simp [intOf]; omega
   ·
    have f1 : decide (0 ≤ y1) = false := by simpa using h1
    have hno : iv = false := by rw [hin, f1]; simp
    clear hin
    have HST := Lib.hid (hst.trans hno)
    clear hst hno
    go_wp2_with fail
    go_roundw
    case rel => exact ⟨k + 1, by go_num, by omega, HST, below_then hw hO1.below⟩
    case measure => simp [intOf]; omega
  ·
   obtain rfl : k = n := by omega
   have hdc : decide ((k : Int) < (k : Int)) = false := by simp
   have hno := hap.out
   rw [List.take_of_length_le (by rw [HN.out]; exact Nat.le_refl _)] at hno
   have HNO := Lib.hid hno
   clear hap hno
   go_wp2_with fail
   go_ret
   exact ⟨by simp [HNO.out], hw⟩
set_option maxHeartbeats 4000000 in
theorem rwanted_k (k : Keep) (a b : Bool) (w : World) : Calls Tryz.prog 232 #[.agg #[.bool k.one, .bool k.other, .bool k.common], .bool a, .bool b] w fun r w' => r = .returned (.bool (wantT k a b)) ∧ Below w.heap.size w w' := by
 obtain ⟨k1, k2, k3⟩ := k
 have hO : Own w _ [_] := (Own.nil w).alloc 226 #[.bool k1, .bool k2, .bool k3] _ rfl
 have hcl := hO.b0.cell
 simp only
 cases k1 <;> cases k2 <;> cases k3 <;> cases a <;> cases b
 all_goals
  go_enter Tryz.func232, Tryz.ntmps232
  go_wp2_with fail
  go_ret
  exact ⟨rfl, hO.below⟩
theorem withT_len (n : Int) : ∀ l : List Int, (withT n l).length ≤ l.length + 1
 | [] => by simp [withT]
 | x :: l => by
  rw [withT]
  split
  ·
   simp
  ·
   split
   ·
    simp
   ·
    have := withT_len n l
    simp only [List.length_cons]
    omega
theorem with_eq {x : Int} {l : List Int} {k : Nat} {y : Int} (h : l[k]? = some y) (e : y = x) : withT x (l.drop k) = y :: l.drop (k + 1) := by
 rw [drop_cons h, withT, if_pos e]
theorem with_gt {x : Int} {l : List Int} {k : Nat} {y : Int} (h : l[k]? = some y) (e : y ≠ x) (g : x < y) : withT x (l.drop k) = x :: y :: l.drop (k + 1) := by
 rw [drop_cons h, withT, if_neg e, if_pos g]
theorem with_lt {x : Int} {l : List Int} {k : Nat} {y : Int} (h : l[k]? = some y) (e : y ≠ x) (g : ¬ x < y) : withT x (l.drop k) = y :: withT x (l.drop (k + 1)) := by
 rw [drop_cons h, withT, if_neg e, if_neg g]
theorem rowI_one {w : World} {g : Nat} {a : Int} (h : Blk w g 3 #[.int .i64 a]) : RowsAt encI w (some ⟨g, 0, none⟩) [a] := fun _ => ⟨g, 0, rfl, h.lt, fun j u hu => by
 rw [Nat.zero_add, h.cell]
 rcases j with _ | j
 ·
  exact hu
 ·
  cases hu⟩
theorem below_grown0 {α : Type} {E : Laid α} {t : TypeId} {w0 w w' : World} {A : Option Addr} {c : Nat} {xs : List α} (h : Below w0.heap.size w0 w) (ho : OwnRows E t w w0.heap.size A c xs) (hg : w.grownBy w' (A.map (·.block))) : Below w0.heap.size w0 w' := below_grown h ho h.size hg
set_option maxRecDepth 8000 in
set_option maxHeartbeats 8000000 in
theorem rwith_k (A : Option Addr) (n c : Nat) (l : List Int) (x : Int) (w : World) (hp : RowsAt encI w A l) (hn : l.length = n) (hl : n ≤ 1000) : Calls Tryz.prog 230 #[.slice A n c, .int .i64 x] w fun r w' => ∃ A' c', r = .returned (.slice A' (withT x l).length c') ∧ OwnRows encI 3 w' w.heap.size A' c' (withT x l) ∧ Below w.heap.size w w' := by
 have HN := Lib.hid hn
 clear hn
 go_enter Tryz.func230, Tryz.ntmps230
 go_wp2
 go_loopw [5, 6, 7] (fun s b i wr => ∃ (k z : Nat) (A1 : Option Addr) (c1 : Nat) (zs : List Int) (q : Bool), i = .int .i64 k ∧ k ≤ n ∧ b = .bool q ∧ s = .slice A1 z c1 ∧ ((q = false → z ≤ k) ∧ z ≤ k + 1) ∧ Hid (zs.length = z) ∧ Hid (zs ++ (if q then l.drop k else withT x (l.drop k)) = withT x l) ∧ OwnRows encI 3 wr w.heap.size A1 c1 zs ∧ Below w.heap.size w wr) (fun _ _ i _ => n - (intOf i).toNat)
 case atStart => exact ⟨0, 0, none, 0, [], false, rfl, Nat.zero_le _, rfl, rfl, ⟨fun _ => Nat.zero_le _, by omega⟩, Lib.hid rfl, Lib.hid (by simp), OwnRows.nil _ _, Below.refl _ _⟩
 case round =>
  obtain ⟨k, z, A1, c1, zs, q, rfl, hk, rfl, rfl, ⟨hzq, hzk⟩, hz, hap, ho, hw⟩ := hrel
  by_cases hlt : k < n
  ·
   have hdc : decide ((k : Int) < (n : Int)) = true := by simpa using hlt
   obtain ⟨y, hy⟩ := get_some HN.out hlt
   obtain ⟨g, off, rfl, hg, hc⟩ := hp.get hy
   have a0 := hc 0 (.int .i64 y) rfl
   simp only [encI, Nat.mul_one, Nat.add_zero] at a0
   have kf := fun W (hW : Below w.heap.size w W) => (hW.cell (p := ⟨g, off + k, none⟩) hg).trans a0
   have k0 := kf _ hw
   have hd1 : l.drop k = y :: l.drop (k + 1) := drop_cons hy
   have e1 := @with_eq x l k y hy
   have e2 := @with_gt x l k y hy
   have e3 := @with_lt x l k y hy
   clear hy hc a0
   by_cases h1 : y = x
   ·
    have f1 : (y == x) = true := by simpa using h1
    have hnx : zs ++ [y] ++ l.drop (k + 1) = withT x l := by
     rw [← hap.out, List.append_assoc]
     cases q
     ·
      rw [if_neg (by simp), e1 h1]; rfl
     ·
      rw [if_pos rfl, hd1]; rfl
    have HNX := Lib.hid hnx
    clear hnx e1 e2 e3 hd1 hap h1
    go_wp2_with (
     (at_builtin; refine wpList_app_rows rowI rfl _ _ rfl w.heap.size A1 c1 zs z rfl hz.out (ho.below ((Below.refl _ _).alloc (Nat.le_refl _) _)) (some ⟨wr.heap.size, 0, none⟩) 1 [y] 1 rfl rfl (rowI_one (Blk.new _ _ _)) (by omega) (by decide) ((hw.alloc hw.size _).size) ?_; intro A2 c2 w5 ho5 hg5 _; have hw5 := below_grown0 (hw.alloc hw.size _) (ho.below ((Below.refl _ _).alloc (Nat.le_refl _) _)) hg5 )
     )
    go_roundw
    case rel => exact ⟨k + 1, z + 1, A2, c2, zs ++ [y], true, by go_num, by omega, rfl, by first | rfl | go_num, ⟨by simp, by omega⟩, Lib.hid (by rw [List.length_append, hz.out]; rfl), Lib.hid (by rw [if_pos rfl]; exact HNX.out), ho5, hw5⟩
    case measure => simp [intOf]; omega
   ·
    have f1 : (y == x) = false := by simpa using h1
    cases q with
    | true =>
     have hnx : zs ++ [y] ++ l.drop (k + 1) = withT x l := by
      rw [← hap.out, List.append_assoc, if_pos rfl, hd1]
      rfl
     have HNX := Lib.hid hnx
     clear hnx e1 e2 e3 hd1 hap h1
     go_wp2_with (
      (at_builtin; refine wpList_app_rows rowI rfl _ _ rfl w.heap.size A1 c1 zs z rfl hz.out (ho.below ((Below.refl _ _).alloc (Nat.le_refl _) _)) (some ⟨wr.heap.size, 0, none⟩) 1 [y] 1 rfl rfl (rowI_one (Blk.new _ _ _)) (by omega) (by decide) ((hw.alloc hw.size _).size) ?_; intro A2 c2 w5 ho5 hg5 _; have hw5 := below_grown0 (hw.alloc hw.size _) (ho.below ((Below.refl _ _).alloc (Nat.le_refl _) _)) hg5 )
      )
     go_roundw
     case rel => exact ⟨k + 1, z + 1, A2, c2, zs ++ [y], true, by go_num, by omega, rfl, by first | rfl | go_num, ⟨by simp, by omega⟩, Lib.hid (by rw [List.length_append, hz.out]; rfl), Lib.hid (by rw [if_pos rfl]; exact HNX.out), ho5, hw5⟩
     case measure => simp [intOf]; omega
    | false =>
     replace hzq := hzq rfl
     by_cases h2 : x < y
     ·
      have f2 : decide (x < y) = true := by simpa using h2
      have hnx : zs ++ [x] ++ [y] ++ l.drop (k + 1) = withT x l := by
       rw [← hap.out, if_neg (by simp), e2 h1 h2]
       simp
      have HNX := Lib.hid hnx
      clear hnx e1 e2 e3 hd1 hap h1
      go_wp2_with (first
       |(
        (at_builtin; refine wpList_app_rows rowI rfl _ _ rfl w.heap.size A1 c1 zs z rfl hz.out (ho.below ((Below.refl _ _).alloc (Nat.le_refl _) _)) (some ⟨wr.heap.size, 0, none⟩) 1 [x] 1 rfl rfl (rowI_one (Blk.new _ _ _)) (by omega) (by decide) ((hw.alloc hw.size _).size) ?_; intro A2 c2 w5 ho5 hg5 _; have hw5 := below_grown0 (hw.alloc hw.size _) (ho.below ((Below.refl _ _).alloc (Nat.le_refl _) _)) hg5 ; have k5 := kf _ hw5)
        )
       |(
        (at_builtin; refine wpList_app_rows rowI rfl _ _ rfl w.heap.size A2 c2 (zs ++ [x]) (z + 1) (by first | rfl | simp) (by rw [List.length_append, hz.out]; rfl) (ho5.below ((Below.refl _ _).alloc (Nat.le_refl _) _)) (some ⟨w5.heap.size, 0, none⟩) 1 [y] 1 rfl rfl (rowI_one (Blk.new _ _ _)) (by omega) (by decide) ((hw5.alloc hw5.size _).size) ?_; intro A3 c3 w6 ho6 hg6 _; have hw6 := below_grown0 (hw5.alloc hw5.size _) (ho5.below ((Below.refl _ _).alloc (Nat.le_refl _) _)) hg6)
        ))
      go_roundw
      case rel => exact ⟨k + 1, z + 2, A3, c3, zs ++ [x] ++ [y], true, by go_num, by omega, rfl, by first | rfl | go_num, ⟨by simp, by omega⟩, Lib.hid (by rw [List.length_append, List.length_append, hz.out]; rfl), Lib.hid (by rw [if_pos rfl]; exact HNX.out), ho6, hw6⟩
      case measure => simp [intOf]; omega
     ·
      have f2 : decide (x < y) = false := by simpa using h2
      have hnx : zs ++ [y] ++ withT x (l.drop (k + 1)) = withT x l := by
       rw [← hap.out, if_neg (by simp), e3 h1 h2]
       simp
      have HNX := Lib.hid hnx
      clear hnx e1 e2 e3 hd1 hap h1
      go_wp2_with (
       (at_builtin; refine wpList_app_rows rowI rfl _ _ rfl w.heap.size A1 c1 zs z rfl hz.out (ho.below ((Below.refl _ _).alloc (Nat.le_refl _) _)) (some ⟨wr.heap.size, 0, none⟩) 1 [y] 1 rfl rfl (rowI_one (Blk.new _ _ _)) (by omega) (by decide) ((hw.alloc hw.size _).size) ?_; intro A2 c2 w5 ho5 hg5 _; have hw5 := below_grown0 (hw.alloc hw.size _) (ho.below ((Below.refl _ _).alloc (Nat.le_refl _) _)) hg5 )
       )
      go_roundw
      case rel => exact ⟨k + 1, z + 1, A2, c2, zs ++ [y], false, by go_num, by omega, rfl, by first | rfl | go_num, ⟨fun _ => by omega, by omega⟩, Lib.hid (by rw [List.length_append, hz.out]; rfl), Lib.hid (by rw [if_neg (by simp)]; exact HNX.out), ho5, hw5⟩
      case measure => simp [intOf]; omega
  ·
   obtain rfl : k = n := by omega
   have hdc : decide ((k : Int) < (k : Int)) = false := by simp
   have hap' := hap.out
   rw [List.drop_of_length_le (by rw [HN.out]; exact Nat.le_refl _)] at hap'
   cases q with
   | true =>
    rw [if_pos rfl, List.append_nil] at hap'
    have HAP := Lib.hid hap'
    have hz2 := hz.out
    clear hap hap'
    go_wp2_with fail
    go_ret
    exact ⟨A1, c1, by rw [← HAP.out, hz2]; rfl, HAP.out ▸ ho, hw⟩
   | false =>
    rw [if_neg (by simp)] at hap'
    have HAP := Lib.hid hap'
    have hz2 := hz.out
    clear hap hap'
    go_wp2_with (
     (at_builtin; refine wpList_app_rows rowI rfl _ _ rfl w.heap.size A1 c1 zs z rfl hz.out (ho.below ((Below.refl _ _).alloc (Nat.le_refl _) _)) (some ⟨wr.heap.size, 0, none⟩) 1 [x] 1 rfl rfl (rowI_one (Blk.new _ _ _)) (by omega) (by decide) ((hw.alloc hw.size _).size) ?_; intro A2 c2 w5 ho5 hg5 _; have hw5 := below_grown0 (hw.alloc hw.size _) (ho.below ((Below.refl _ _).alloc (Nat.le_refl _) _)) hg5 )
     )
    go_ret
    exact ⟨A2, c2, by rw [← HAP.out, withT, List.length_append, hz2]; rfl, HAP.out ▸ ho5, hw5⟩
abbrev spV (s : Sp) : Value := .agg #[.int .i64 s.edge, .int .i64 s.lo, .int .i64 s.hi]
def eqSp (a b : Sp) : Bool := decide (a.edge = b.edge) && decide (a.lo = b.lo) && decide (a.hi = b.hi)
theorem eqSp_iff (a b : Sp) : eqSp a b = true ↔ a = b := by
 obtain ⟨a1, a2, a3⟩ := a
 obtain ⟨b1, b2, b3⟩ := b
 unfold eqSp
 simp only [Bool.and_eq_true, decide_eq_true_eq, Sp.mk.injEq, and_assoc]
theorem run_eql_sp (a b : Sp) (W : World) : (binOp .eql 75 (spV a) (spV b)).run Tryz.prog W = .ok (.bool (eqSp a b)) W := by
 have u3 := Tryz.underlying3
 have a3 := Tryz.isAgg3
 have z3 := Tryz.sizeOf3
 have hSE : Tryz.prog.underlying 75 = some (.struct (Tryz.prog.fieldsOf 75)) := by kernel_rfl
 have hpE : Tryz.prog.stoodInHeld 75 = false := by kernel_rfl
 rw [run_eql_struct, show (10000 : Nat) = 9999 + 1 from rfl]
 have hE := run_equalIn_agg (P := Tryz.prog) W 9999 75 #[.int .i64 a.edge, .int .i64 a.lo, .int .i64 a.hi] #[.int .i64 b.edge, .int .i64 b.lo, .int .i64 b.hi] hSE hpE
 simp only [Program.fieldsOf, Tryz.underlying75] at hE
 rw [hE]
 go_simp
 obtain ⟨x1, x2, x3⟩ := a
 obtain ⟨y1, y2, y3⟩ := b
 unfold eqSp
 by_cases h1 : x1 = y1 <;> by_cases h2 : x2 = y2 <;> by_cases h3 : x3 = y3 <;> simp [h1, h2, h3]
theorem run_neq_of_eql {t : TypeId} {a b : Array Value} {W : World} {r : Bool} (h : (binOp .eql t (.agg a) (.agg b)).run Tryz.prog W = .ok (.bool r) W) : (binOp .neq t (.agg a) (.agg b)).run Tryz.prog W = .ok (.bool (!r)) W := by
 simp only [binOp, Op.equal] at h ⊢
 simp at h ⊢
 cases hr : (Op.equalIn Op.maxDepth t (.agg a) (.agg b)).run Tryz.prog W with
 | ok v W' =>
  rw [hr] at h
  simp at h
  obtain ⟨h1, h2⟩ := h
  subst h2
  simp [h1]
 | halt e W' =>
  rw [hr] at h
  simp at h
theorem sameSp_take {a b : List Sp} {k : Nat} {x y : Sp} (ha : a[k]? = some x) (hb : b[k]? = some y) (h : a.take k = b.take k) : a.take (k + 1) = b.take (k + 1) ↔ eqSp x y = true := by
 rw [take_snoc' ha, take_snoc' hb, h, eqSp_iff]
 simp
set_option maxRecDepth 8000 in
set_option maxHeartbeats 4000000 in
theorem rsame15_k (A : Option Addr) (n c : Nat) (a : List Sp) (B : Option Addr) (n2 c2 : Nat) (b : List Sp) (w : World) (ha : RowsAt encSp w A a) (hn : a.length = n) (hb : RowsAt encSp w B b) (hn2 : b.length = n2) (hl : n ≤ 1000) (hl2 : n2 ≤ 1000) : Calls Tryz.prog 8 #[.slice A n c, .slice B n2 c2] w fun r w' => (∃ q, r = .returned (.bool q) ∧ (q = true ↔ a = b)) ∧ Below w.heap.size w w' := by
 have HN := Lib.hid hn
 have HN2 := Lib.hid hn2
 clear hn hn2
 by_cases he : n = n2
 ·
  subst he
  have f0 : ((n : Int) != (n : Int)) = false := by simp
  go_enter Tryz.func8, Tryz.ntmps8
  go_wp2
  clear f0
  go_loopw [5] (fun i wr => ∃ k : Nat, i = .int .i64 k ∧ k ≤ n ∧ Hid (a.take k = b.take k) ∧ Below w.heap.size w wr) (fun i _ => n - (intOf i).toNat)
  case atStart => exact ⟨0, rfl, Nat.zero_le _, Lib.hid rfl, Below.refl _ _⟩
  case round =>
   obtain ⟨k, rfl, hk, hap, hw⟩ := hrel
   by_cases hlt : k < n
   ·
    have hdc : decide ((k : Int) < (n : Int)) = true := by simpa using hlt
    obtain ⟨x, hx⟩ := get_some HN.out hlt
    obtain ⟨y, hy⟩ := get_some HN2.out hlt
    obtain ⟨g, off, rfl, hg, a0, a1, a2⟩ := ha.sp hx
    obtain ⟨g', off', rfl, hg', b0, b1, b2⟩ := hb.sp hy
    have ka0 := fun W (hW : Below w.heap.size w W) => (hW.cell (p := ⟨g, off + k * 3, none⟩) hg).trans a0
    have ka1 := fun W (hW : Below w.heap.size w W) => (hW.cell (p := ⟨g, off + k * 3 + 1, none⟩) hg).trans a1
    have ka2 := fun W (hW : Below w.heap.size w W) => (hW.cell (p := ⟨g, off + k * 3 + 2, none⟩) hg).trans a2
    have kb0 := fun W (hW : Below w.heap.size w W) => (hW.cell (p := ⟨g', off' + k * 3, none⟩) hg').trans b0
    have kb1 := fun W (hW : Below w.heap.size w W) => (hW.cell (p := ⟨g', off' + k * 3 + 1, none⟩) hg').trans b1
    have kb2 := fun W (hW : Below w.heap.size w W) => (hW.cell (p := ⟨g', off' + k * 3 + 2, none⟩) hg').trans b2
    have hst := sameSp_take hx hy hap.out
    have heq := fun W => run_neq_of_eql (run_eql_sp x y W)
    obtain ⟨x1, x2, x3⟩ := x
    obtain ⟨y1, y2, y3⟩ := y
    simp only [spV] at heq ka0 ka1 ka2 kb0 kb1 kb2
    generalize eqSp ⟨x1, x2, x3⟩ ⟨y1, y2, y3⟩ = q at *
    clear hx hy a0 a1 a2 b0 b1 b2 hap
    cases q with
    | true =>
     have HST := Lib.hid (hst.2 rfl)
     clear hst
     go_wp2_with fail
     apply wp_region_lex
     case hFl => intro u; simp only [List.map, fill, Act.put, List.setIfInBounds_toArray, List.set_cons_zero, List.set_cons_succ, Nat.reduceAdd, Nat.zero_add]; rfl
     case hm => kernel_rfl
     case hB => kernel_rfl
     case hap => kernel_rfl
     repeat (first | (apply Lex.is; · (intro u w' hk hd; simp [Waited, Region.binds, Is] at hd; refine looked_want ?_ ?_; (· (first | rfl | (simp [Region.wanted, yielded, hd]; done))); intro K hK; have hB2 := below_then hw hk; have m0 := ka0 _ hB2; have m1 := ka1 _ hB2; have m2 := ka2 _ hB2; have m3 := kb0 _ hB2; have m4 := kb1 _ hB2; have m5 := kb2 _ hB2; go_wp2_with (fail); (try simp only [hd] at hK); refine hK _ _ ?_ rfl; first | exact Below.refl _ _ | exact hb3)) | (refine Lex.is (c := undef) ?_ ?_; · (intro u w' hk hd; simp [Waited, Region.binds, Is] at hd; refine looked_skip ?_ rfl; first | (simp [Region.wanted, yielded, hd]; done) | (simp [Region.wanted, yielded, hd, undef]; done))))
     apply Lex.nil
     intro u w' hk hd
     simp only [List.nil_append, List.cons_append] at hd
     have hlast := hd 8 _ rfl
     simp only [Is] at hlast
     clear hd
     simp only [hlast]
     clear hlast
     have hB3 := below_then hw hk
     go_wp2_with fail
     go_roundw
     case rel => exact ⟨k + 1, by go_num, by omega, HST, hB3⟩
     case measure => simp [intOf]; omega
    | false =>
     have hne : a ≠ b := fun e => by
      have := hst.1 (by rw [e])
      cases this
     have HNE := Lib.hid hne
     clear hst hne
     go_wp2_with fail
     apply wp_region_lex
     case hFl => intro u; simp only [List.map, fill, Act.put, List.setIfInBounds_toArray, List.set_cons_zero, List.set_cons_succ, Nat.reduceAdd, Nat.zero_add]; rfl
     case hm => kernel_rfl
     case hB => kernel_rfl
     case hap => kernel_rfl
     repeat (first | (apply Lex.is; · (intro u w' hk hd; simp [Waited, Region.binds, Is] at hd; refine looked_want ?_ ?_; (· (first | rfl | (simp [Region.wanted, yielded, hd]; done))); intro K hK; have hB2 := below_then hw hk; have m0 := ka0 _ hB2; have m1 := ka1 _ hB2; have m2 := ka2 _ hB2; have m3 := kb0 _ hB2; have m4 := kb1 _ hB2; have m5 := kb2 _ hB2; go_wp2_with (fail); (try simp only [hd] at hK); refine hK _ _ ?_ rfl; first | exact Below.refl _ _ | exact hb3)) | (refine Lex.is (c := undef) ?_ ?_; · (intro u w' hk hd; simp [Waited, Region.binds, Is] at hd; refine looked_skip ?_ rfl; first | (simp [Region.wanted, yielded, hd]; done) | (simp [Region.wanted, yielded, hd, undef]; done))))
     apply Lex.nil
     intro u w' hk hd
     simp only [List.nil_append, List.cons_append] at hd
     have hlast := hd 8 _ rfl
     simp only [Is] at hlast
     clear hd
     simp only [hlast]
     clear hlast
     have hB3 := below_then hw hk
     go_wp2_with fail
     go_ret
     exact ⟨⟨false, rfl, by simp [HNE.out]⟩, hB3⟩
   ·
    obtain rfl : k = n := by omega
    have hdc : decide ((k : Int) < (k : Int)) = false := by simp
    have he := hap.out
    rw [List.take_of_length_le (by rw [HN.out]; exact Nat.le_refl _), List.take_of_length_le (by rw [HN2.out]; exact Nat.le_refl _)] at he
    have HE := Lib.hid he
    clear he hap
    go_wp2_with fail
    go_ret
    exact ⟨⟨true, rfl, by simp [HE.out]⟩, hw⟩
 ·
  have f0 : ((n : Int) != (n2 : Int)) = true := by simp; omega
  have HNE : Hid (a ≠ b) := Lib.hid fun e => by
   have h1 := HN.out
   rw [e, HN2.out] at h1
   exact he h1.symm
  go_enter Tryz.func8, Tryz.ntmps8
  go_wp2
  go_ret
  exact ⟨⟨false, rfl, by simp [HNE.out]⟩, Below.refl _ _⟩
open Go.RowKit
def WaysQ (R : Option Nat) (s i : Nat) (w w' : World) : Prop := (i ≠ s → Below w.heap.size w w') ∧ w.grownBy w' R
theorem waysQ_same (R : Option Nat) (s i : Nat) (w : World) : WaysQ R s i w w := ⟨fun _ => Below.refl _ _, World.grownBy.refl w R⟩
theorem grown_below {w w' : World} (h : Below w.heap.size w w') (R : Option Nat) : w.grownBy w' R := ⟨h.os, h.tape, h.output, h.size, fun k hk _ => h.block k hk⟩
theorem waysQ_below {R : Option Nat} {s i : Nat} {w w' : World} (h : Below w.heap.size w w') : WaysQ R s i w w' := ⟨fun _ => h, grown_below h R⟩
theorem grownTrans {a b c : World} {R : Option Nat} (h : a.grownBy b R) (k : b.grownBy c R) : a.grownBy c R :=
 ⟨k.os.trans h.os, k.tape.trans h.tape, k.output.trans h.output, Nat.le_trans h.size k.size, fun i hi hn => (k.block i (Nat.lt_of_lt_of_le hi h.size) hn).trans (h.block i hi hn)⟩
def MsgQ (t : TypeId) (R : Option Nat) (cs : Array Value) : Value → World → Prop := fun v w => ∃ bv, v = .slice (some ⟨bv, 0, none⟩) 1 1 ∧ Blk w bv t cs ∧ R ≠ some bv
theorem MsgQ.grow {t : TypeId} {R : Option Nat} {cs : Array Value} {v : Value} {w w' : World} (h : MsgQ t R cs v w) (hg : w.grownBy w' R) : MsgQ t R cs v w' := by
 obtain ⟨bv, e, hB, hn⟩ := h
 exact ⟨bv, e, (hg.block bv hB.lt (fun e => hn e.symm)).trans hB, hn⟩
def RowQ {α : Type} (E : Laid α) (t : TypeId) (B n : Nat) (xs : List α) : Value → World → Prop := fun v w => ∃ A c, v = .slice A n c ∧ OwnRows E t w B A c xs
theorem RowQ.grow {α : Type} {E : Laid α} {t : TypeId} {B n : Nat} {xs : List α} {v : Value} {w w' : World} (h : RowQ E t B n xs v w) (hb : Below w.heap.size w w') : RowQ E t B n xs v w' := by
 obtain ⟨A, c, e, hO⟩ := h
 exact ⟨A, c, e, hO.below hb⟩
def StQ (R : Option Nat) (s : Nat) : Nat → List (Value → World → Prop) → Prop
 | _, [] => True
 | n, Φ :: l => (∀ i, i ≠ n → ∀ v w w', Φ v w → WaysQ R s i w w' → Φ v w') ∧ StQ R s (n + 1) l
theorem stQ_at {R : Option Nat} {s : Nat} : ∀ {l : List (Value → World → Prop)} {n j : Nat} {Φ : Value → World → Prop}, StQ R s n l → l[j]? = some Φ → ∀ i, i ≠ n + j → ∀ v w w', Φ v w → WaysQ R s i w w' → Φ v w'
 | [], _, _, _, _, hj => by simp at hj
 | Ψ :: l, n, 0, Φ, h, hj => by
  simp only [List.getElem?_cons_zero, Option.some.injEq] at hj
  subst hj
  intro i hi
  exact h.1 i hi
 | Ψ :: l, n, j + 1, Φ, h, hj => by
  rw [List.getElem?_cons_succ] at hj
  intro i hi
  exact stQ_at h.2 hj i (by omega)
theorem stQ_last {R : Option Nat} {s : Nat} {l : List (Value → World → Prop)} (h : StQ R s 0 l) : ∀ i j (Φ : Value → World → Prop), i ≠ j → i < l.length → l[j]? = some Φ → ∀ v w w', Φ v w → WaysQ R s i w w' → Φ v w' :=
 fun i j _ hij _ hj v w w' hv ht => stQ_at h hj i (by omega) v w w' hv ht
end Go.Proofs.YtkaggddmhjifjaaGreatDoor
