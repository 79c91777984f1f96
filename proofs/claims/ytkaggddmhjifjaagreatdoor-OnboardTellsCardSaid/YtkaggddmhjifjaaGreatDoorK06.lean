/- Texts in one: RegionB RegionG SpanA SpanB SpanD. -/
import Derived.Test.YtkaggddmhjifjaaGreatDoorK05
import Derived.Sort.Grow
import Derived.Test.YtkaggddmhjifjaaGreatDoorK04
import Derived.Shelf.SlSortCmp.NoneTotal
import Derived.Ground.SlsfProg
set_option linter.unusedSimpArgs false
set_option linter.unusedVariables false
namespace Go.Proofs.YtkaggddmhjifjaaGreatDoor
open Go.RowKit
def WaysB (B s i : Nat) (w w' : World) : Prop := Below B w w' ∧ (i ≠ s → Below w.heap.size w w') ∧ (i = s → w' = w ∨ ∃ g t cs new, Blk w g t cs ∧ Blk w' g t new ∧ new.size = cs.size ∧ w'.heap.size = w.heap.size ∧ ∀ k, k ≠ g → w'.heap[k]? = w.heap[k]?)
theorem waysB_same (B s i : Nat) (w : World) : WaysB B s i w w := ⟨Below.refl _ _, fun _ => Below.refl _ _, fun _ => .inl rfl⟩
theorem waysB_below {B s i : Nat} {w w' : World} (hB : B ≤ w.heap.size) (h : Below w.heap.size w w') (hi : i ≠ s) : WaysB B s i w w' := ⟨h.mono hB, fun _ => h, fun e => absurd e hi⟩
def BoxB (B : Nat) (t : TypeId) (n : Nat) : Value → World → Prop := fun v w => ∃ g cs, v = .pointer (some ⟨g, 0, none⟩) ∧ B ≤ g ∧ Blk w g t cs ∧ cs.size = n
theorem BoxB.keep {B s i n : Nat} {t : TypeId} {v : Value} {w w' : World} (h : BoxB B t n v w) (ht : WaysB B s i w w') : BoxB B t n v w' := by
 obtain ⟨g, cs, e, hg, hb, hs⟩ := h
 by_cases hi : i = s
 ·
  rcases ht.2.2 hi with rfl | ⟨g', t', cs', new, h1, h3, h5, h6, h7⟩
  ·
   exact ⟨g, cs, e, hg, hb, hs⟩
  ·
   by_cases hgg : g = g'
   ·
    subst hgg
    unfold Blk at h1 hb
    rw [hb] at h1
    simp at h1
    obtain ⟨rfl, rfl⟩ := h1
    exact ⟨g, new, e, hg, h3, by omega⟩
   ·
    exact ⟨g, cs, e, hg, (h7 g hgg).trans hb, hs⟩
 ·
  exact ⟨g, cs, e, hg, hb.below (ht.2.1 hi) hb.lt, hs⟩
def FullB (B j : Nat) (t : TypeId) (cs : Array Value) : (Nat → Value) → World → Prop := fun u w => ∃ g, u j = .pointer (some ⟨g, 0, none⟩) ∧ B ≤ g ∧ Blk w g t cs
def StableB (ops : Array Oper) (B s j : Nat) (Φ : (Nat → Value) → World → Prop) : Prop := ∀ i, i ≠ j → FreeOf ops i j → ∀ u v w w', Φ u w → WaysB B s i w w' → Φ (upd u i v) w'
def StB (ops : Array Oper) (B s : Nat) : Nat → List ((Nat → Value) → World → Prop) → Prop
 | _, [] => True
 | j, Φ :: l => StableB ops B s j Φ ∧ StB ops B s (j + 1) l
theorem stB_at {ops : Array Oper} {B s : Nat} : ∀ (l : List ((Nat → Value) → World → Prop)) (k : Nat), StB ops B s k l → ∀ j Φ, l[j]? = some Φ → StableB ops B s (k + j) Φ
 | [], _, _, j, Φ, h => by simp at h
 | Ψ :: l, k, h, 0, Φ, hj => by
  simp at hj
  subst hj
  exact h.1
 | Ψ :: l, k, h, j + 1, Φ, hj => by
  have := stB_at l (k + 1) h.2 j Φ (by simpa using hj)
  rwa [show k + 1 + j = k + (j + 1) by omega] at this
theorem stableB_is {ops : Array Oper} {B s j : Nat} (c : Value) : StableB ops B s j (Own1 j (Is c)) := fun _ hij _ _ _ _ _ h _ => own1_keep hij h fun _ h => h
theorem stableB_box {ops : Array Oper} {B s j n : Nat} {t : TypeId} : StableB ops B s j (Own1 j (BoxB B t n)) := fun _ hij _ _ _ _ _ h ht => own1_keep hij h fun _ h => BoxB.keep h ht
theorem stableB_full {ops : Array Oper} {B s b : Nat} {t : TypeId} {cs : Array Value} (hb : ∀ i, FreeOf ops i s → i ≠ b) : StableB ops B s s (FullB B b t cs) := by
 intro i hij hf u v w w' h ht
 obtain ⟨g, e, hg, hbk⟩ := h
 have hne := hb i hf
 exact ⟨g, by rw [upd_other u v (fun e => hne e.symm)]; exact e, hg, hbk.below (ht.2.1 hij) hbk.lt⟩
theorem stB_last {ops : Array Oper} {B s : Nat} {Φs : List ((Nat → Value) → World → Prop)} (h : StB ops B s 0 Φs) : ∀ i j (Φ : (Nat → Value) → World → Prop), i ≠ j → i < Φs.length → FreeOf ops i j → Φs[j]? = some Φ → ∀ u v w w', Φ u w → WaysB B s i w w' → Φ (upd u i v) w' := by
 intro i j Φ hij _ hfr hj u v W W' hΦ ht
 have := stB_at _ 0 h j Φ hj
 rw [Nat.zero_add] at this
 exact this i hij hfr u v W W' hΦ ht
def PureW (φ : Value → Prop) : Value → World → Prop := fun v _ => φ v
theorem stableB_pure {ops : Array Oper} {B s j : Nat} (φ : Value → Prop) : StableB ops B s j (Own1 j (PureW φ)) := fun _ hij _ _ _ _ _ h _ => own1_keep hij h fun _ h => h
def AnyW : (Nat → Value) → World → Prop := fun _ _ => True
theorem stableB_any {ops : Array Oper} {B s j : Nat} : StableB ops B s j AnyW := fun _ _ _ _ _ _ _ _ _ => trivial
def TupB (n : Nat) (b : Bool) (v : Value) : Prop := ∃ x : Array Value, v = .tuple #[.agg x, .bool b] ∧ x.size = n ∧ x.all (·.oneCell') = true
def AggB (n : Nat) (v : Value) : Prop := ∃ x : Array Value, v = .agg x ∧ x.size = n ∧ x.all (·.oneCell') = true
end Go.Proofs.YtkaggddmhjifjaaGreatDoor
set_option linter.unusedSimpArgs false
set_option linter.unusedVariables false
namespace Go.Proofs.YtkaggddmhjifjaaGreatDoor
open Go.RowKit Go.Sort
def GrowsD (w w' : World) : Prop := ∃ (q : Nat) (os : Array Obj), w' = grow (w.drewN q) os
theorem GrowsD.refl (w : World) : GrowsD w w := ⟨0, #[], by rw [grow_empty]; rfl⟩
theorem GrowsD.drewN (w : World) (n : Nat) : GrowsD w (w.drewN n) := ⟨n, #[], by simp⟩
theorem GrowsD.drew (w : World) : GrowsD w w.drew := ⟨1, #[], by simp; rfl⟩
theorem GrowsD.trans {a b c : World} (h : GrowsD a b) (k : GrowsD b c) : GrowsD a c := by
 obtain ⟨q, os, rfl⟩ := h
 obtain ⟨q', os', rfl⟩ := k
 refine ⟨q + q', os ++ os', ?_⟩
 show grow (grow ((a.drewN q).drewN q') os) os' = _
 rw [grow_grow, World.drewN_drewN]
theorem GrowsD.alloc (w : World) (o : Obj) : GrowsD w (w.alloc o) := ⟨0, #[o], by rw [alloc_eq_grow]; rfl⟩
theorem GrowsD.below {w w' : World} (h : GrowsD w w') : Below w.heap.size w w' := by
 obtain ⟨q, os, rfl⟩ := h
 exact ⟨rfl, rfl, rfl, by simp, fun k hk => heap_grow_old (w.drewN q) os hk⟩
def TwoW (x y : Int) : Value → World → Prop := fun v w => ∃ g, v = .slice (some ⟨g, 0, none⟩) 2 2 ∧ g < w.heap.size ∧ w.cell? ⟨g, 0, none⟩ = some (.int .i64 x) ∧ w.cell? ⟨g, 1, none⟩ = some (.int .i64 y)
theorem TwoW.keep {x y : Int} {v : Value} {w w' : World} (h : TwoW x y v w) (hg : GrowsD w w') : TwoW x y v w' := by
 obtain ⟨g, e, hlt, h0, h1⟩ := h
 have hb := hg.below
 exact ⟨g, e, Nat.lt_of_lt_of_le hlt hb.size, (hb.cell (p := ⟨g, 0, none⟩) hlt).trans h0, (hb.cell (p := ⟨g, 1, none⟩) hlt).trans h1⟩
def StableG (ops : Array Oper) (j : Nat) (Φ : (Nat → Value) → World → Prop) : Prop := ∀ i, i ≠ j → FreeOf ops i j → ∀ u v w w', Φ u w → GrowsD w w' → Φ (upd u i v) w'
def StG (ops : Array Oper) : Nat → List ((Nat → Value) → World → Prop) → Prop
 | _, [] => True
 | j, Φ :: l => StableG ops j Φ ∧ StG ops (j + 1) l
theorem stG_at {ops : Array Oper} : ∀ (l : List ((Nat → Value) → World → Prop)) (k : Nat), StG ops k l → ∀ j Φ, l[j]? = some Φ → StableG ops (k + j) Φ
 | [], _, _, j, Φ, h => by simp at h
 | Ψ :: l, k, h, 0, Φ, hj => by
  simp at hj
  subst hj
  exact h.1
 | Ψ :: l, k, h, j + 1, Φ, hj => by
  have := stG_at l (k + 1) h.2 j Φ (by simpa using hj)
  rwa [show k + 1 + j = k + (j + 1) by omega] at this
theorem stableG_is {ops : Array Oper} {j : Nat} (c : Value) : StableG ops j (Own1 j (Is c)) := fun _ hij _ _ _ _ _ h _ => own1_keep hij h fun _ h => h
theorem stableG_two {ops : Array Oper} {j : Nat} {x y : Int} : StableG ops j (Own1 j (TwoW x y)) := fun _ hij _ _ _ _ _ h ht => own1_keep hij h fun _ h => TwoW.keep h ht
theorem stG_last {ops : Array Oper} {Φs : List ((Nat → Value) → World → Prop)} (h : StG ops 0 Φs) : ∀ i j (Φ : (Nat → Value) → World → Prop), i ≠ j → i < Φs.length → FreeOf ops i j → Φs[j]? = some Φ → ∀ u v w w', Φ u w → GrowsD w w' → Φ (upd u i v) w' := by
 intro i j Φ hij _ hfr hj u v W W' hΦ ht
 have := stG_at _ 0 h j Φ hj
 rw [Nat.zero_add] at this
 exact this i hij hfr u v W W' hΦ ht
end Go.Proofs.YtkaggddmhjifjaaGreatDoor
set_option linter.unusedSimpArgs false
set_option linter.unusedVariables false
namespace Go.Proofs.YtkaggddmhjifjaaGreatDoor
open Go.RowKit Go.Shelf Go.Sort
theorem some_k (s : Sp) (w : World) : Calls Tryz.prog 102 #[.agg #[.int .i64 s.edge, .int .i64 s.lo, .int .i64 s.hi]] w fun e w' => e = .returned (.bool (someT s)) ∧ Below w.heap.size w w' := by
 have hO : Own w _ [_] := (Own.nil w).alloc 75 #[.int .i64 s.edge, .int .i64 s.lo, .int .i64 s.hi] _ rfl
 have hcl := hO.b0.cell
 obtain ⟨s1, s2, s3⟩ := s
 have hr : someT ⟨s1, s2, s3⟩ = (decide (0 ≤ s1) && decide (0 ≤ s2) && decide (s2 < s3) && decide (s3 ≤ 1000000)) := rfl
 generalize someT ⟨s1, s2, s3⟩ = sb at *
 simp only at hO hcl ⊢
 by_cases h1 : 0 ≤ s1
 ·
  have f1 : decide (0 ≤ s1) = true := by simpa using h1
  by_cases h2 : 0 ≤ s2
  ·
   have f2 : decide (0 ≤ s2) = true := by simpa using h2
   by_cases h3 : s2 < s3
   ·
    have f3 : decide (s2 < s3) = true := by simpa using h3
    rw [f1, f2, f3] at hr
    have HR := Lib.hid hr
    clear hr
    go_enter Tryz.func102, Tryz.ntmps102
    go_wp2_with fail
    go_ret
    exact ⟨by simp [HR.out], hO.below⟩
   ·
    have f3 : decide (s2 < s3) = false := by simpa using h3
    obtain rfl : sb = false := by rw [hr, f1, f2, f3]; rfl
    clear hr
    go_enter Tryz.func102, Tryz.ntmps102
    go_wp2_with fail
    go_ret
    exact ⟨rfl, hO.below⟩
  ·
   have f2 : decide (0 ≤ s2) = false := by simpa using h2
   obtain rfl : sb = false := by rw [hr, f1, f2]; rfl
   clear hr
   go_enter Tryz.func102, Tryz.ntmps102
   go_wp2_with fail
   go_ret
   exact ⟨rfl, hO.below⟩
 ·
  have f1 : decide (0 ≤ s1) = false := by simpa using h1
  obtain rfl : sb = false := by rw [hr, f1]; rfl
  clear hr
  go_enter Tryz.func102, Tryz.ntmps102
  go_wp2_with fail
  go_ret
  exact ⟨rfl, hO.below⟩
theorem enter_norm1 : ∀ args w, (callFunc 101 args).run Tryz.prog w = .ok (.enter 101 args) w := enters_of Tryz.func101 (by kernel_rfl) (by rfl)
theorem enter_norm2 : ∀ args w, (callFunc 104 args).run Tryz.prog w = .ok (.enter 104 args) w := enters_of Tryz.func104 (by kernel_rfl) (by rfl)
theorem norm1_k (s : Sp) (w : World) : Calls Tryz.prog 101 #[.agg (encSp.enc s).toArray] w fun e w' => e = .returned (.bool (!someT s)) ∧ Below w.heap.size w w' := by
 have hs := fun W => some_k s W
 generalize someT s = sb at *
 obtain ⟨s1, s2, s3⟩ := s
 simp only [encSp] at hs ⊢
 have hO : Own w _ [_] := (Own.nil w).alloc 75 #[.int .i64 s1, .int .i64 s2, .int .i64 s3] _ rfl
 have hcl := hO.b0.cell
 go_enter Tryz.func101, Tryz.ntmps101
 go_wp2_with (first
  |(go_at_call 102; (with_reducible refine (hs _).mono ?_); rintro e w1 ⟨rfl, hb1⟩; replace hO := hO.grow hb1))
 go_ret
 exact ⟨rfl, hO.below⟩
def cmpI (x y : Int) : Int := if x < y then -1 else if y < x then 1 else 0
theorem nan_k (x : Int) (w : World) : Calls Tryz.prog 162 #[.int .i64 x] w fun e w' => e = .returned (.bool false) ∧ w' = w := by
 go_enter Tryz.func162, Tryz.ntmps162
 go_wp2_with fail
 go_ret
 exact ⟨by simp, rfl⟩
theorem compare_k (x y : Int) (w : World) : Calls Tryz.prog 106 #[.int .i64 x, .int .i64 y] w fun e w' => e = .returned (.int .i64 (cmpI x y)) ∧ w' = w := by
 have hn := fun a W => nan_k a W
 unfold cmpI
 by_cases h1 : x < y
 ·
  have f1 : decide (x < y) = true := by simpa using h1
  rw [if_pos h1]
  go_enter Tryz.func106, Tryz.ntmps106
  go_wp2_with (first
   |(go_at_call 162; (with_reducible refine (hn _ _).mono ?_); rintro e w1 ⟨rfl, rfl⟩))
  go_ret
  exact ⟨rfl, rfl⟩
 ·
  have f1 : decide (x < y) = false := by simpa using h1
  rw [if_neg h1]
  by_cases h2 : y < x
  ·
   have f2 : decide (y < x) = true := by simpa using h2
   rw [if_pos h2]
   go_enter Tryz.func106, Tryz.ntmps106
   go_wp2_with (first
    |(go_at_call 162; (with_reducible refine (hn _ _).mono ?_); rintro e w1 ⟨rfl, rfl⟩))
   go_ret
   exact ⟨rfl, rfl⟩
  ·
   have f2 : decide (y < x) = false := by simpa using h2
   rw [if_neg h2]
   go_enter Tryz.func106, Tryz.ntmps106
   go_wp2_with (first
    |(go_at_call 162; (with_reducible refine (hn _ _).mono ?_); rintro e w1 ⟨rfl, rfl⟩))
   go_ret
   exact ⟨rfl, rfl⟩
def orI (x y : Int) : Int := if x ≠ 0 then x else y
theorem or_k (g c : Nat) (x y : Int) (w : World) (h0 : w.cell? ⟨g, 0, none⟩ = some (.int .i64 x)) (h1 : w.cell? ⟨g, 1, none⟩ = some (.int .i64 y)) : Calls Tryz.prog 105 #[.slice (some ⟨g, 0, none⟩) 2 c] w fun e w' => e = .returned (.int .i64 (orI x y)) ∧ w' = w := by
 unfold orI
 by_cases hx : x = 0
 ·
  rw [if_neg (by simpa using hx)]
  have e1 : (x != 0) = false := by simpa using hx
  by_cases hy : y = 0
  ·
   have e2 : (y != 0) = false := by simpa using hy
   subst hx
   subst hy
   go_enter Tryz.func105, Tryz.ntmps105
   go_wp2_with fail
   refine wp_loop_rounds 3 ?_
   rw [rounds_succ]
   go_wp2_with fail
   rw [rounds_succ]
   go_wp2_with fail
   rw [rounds_succ]
   go_wp2_with fail
   go_ret
   exact ⟨rfl, rfl⟩
  ·
   have e2 : (y != 0) = true := by simpa using hy
   subst hx
   clear hy
   go_enter Tryz.func105, Tryz.ntmps105
   go_wp2_with fail
   refine wp_loop_rounds 2 ?_
   rw [rounds_succ]
   go_wp2_with fail
   rw [rounds_succ]
   go_wp2_with fail
   go_ret
   exact ⟨rfl, rfl⟩
 ·
  rw [if_pos hx]
  have e1 : (x != 0) = true := by simpa using hx
  clear hx
  go_enter Tryz.func105, Tryz.ntmps105
  go_wp2_with fail
  refine wp_loop_rounds 1 ?_
  rw [rounds_succ]
  go_wp2_with fail
  go_ret
  exact ⟨rfl, rfl⟩
def cfSp (a b : Sp) : Int := orI (cmpI a.edge b.edge) (cmpI a.lo b.lo)
def rowB (A : Option Addr) : Option Nat := A.map (·.block)
theorem grown_block {w W W' : World} {g : Nat} (h : w.grownBy W (some g)) (hz : W'.heap.size = W.heap.size) (hk : ∀ k, k ≠ g → W'.heap[k]? = W.heap[k]?) (he : W'.os = W.os ∧ W'.tape = W.tape ∧ W'.output = W.output) : w.grownBy W' (some g) :=
 ⟨he.1.trans h.os, he.2.1.trans h.tape, he.2.2.trans h.output, by rw [hz]; exact h.size, fun i hi hne => (hk i (fun e => hne (by rw [e]))).trans (h.block i hi hne)⟩
theorem grown_then {w W W' : World} {r : Option Nat} (h : w.grownBy W r) (hb : Below W.heap.size W W') : w.grownBy W' r :=
 ⟨hb.os.trans h.os, hb.tape.trans h.tape, hb.output.trans h.output, Nat.le_trans h.size hb.size, fun i hi hne => (hb.block i (Nat.lt_of_lt_of_le hi h.size)).trans (h.block i hi hne)⟩
theorem OwnRows.base {α : Type} {E : Laid α} {t : TypeId} {w : World} {B B' : Nat} {A : Option Addr} {c : Nat} {xs : List α} (h : OwnRows E t w B A c xs) (hB : B' ≤ B) : OwnRows E t w B' A c xs :=
 ⟨h.1, h.2.imp id fun ⟨g, cap, cur, e, h1, r⟩ => ⟨g, cap, cur, e, Nat.le_trans hB h1, r⟩⟩
theorem below_grown {α : Type} {E : Laid α} {t : TypeId} {B : Nat} {w0 w w' : World} {A : Option Addr} {c : Nat} {xs : List α} (h : Below B w0 w) (ho : OwnRows E t w B A c xs) (hBw : B ≤ w.heap.size) (hg : w.grownBy w' (rowB A)) : Below B w0 w' := by
 refine h.trans ⟨hg.os, hg.tape, hg.output, hg.size, fun k hk => hg.block k (by omega) fun e => ?_⟩
 cases A with
 | none => cases e
 | some a =>
  obtain ⟨g, cur, e', h1, _⟩ := ho.blk (by simp)
  simp only [Option.some.injEq] at e'
  subst e'
  simp only [rowB, Option.map_some, Option.some.injEq] at e
  omega
theorem rowSp_one {w : World} {g : Nat} {a b c : Int} (h : Blk w g 75 #[.int .i64 a, .int .i64 b, .int .i64 c]) : RowsAt encSp w (some ⟨g, 0, none⟩) [⟨a, b, c⟩] := fun _ => ⟨g, 0, rfl, h.lt, fun j u hu => by
 rw [Nat.zero_add, h.cell, ← Array.getElem?_toList]
 exact hu⟩
theorem Own.grown {w W W' : World} {L : List Bk} {R : Option Nat} (h : Own w W L) (hg : W.grownBy W' R) (hR : ∀ g, R = some g → w.heap.size ≤ g ∧ ∀ x ∈ L, x.1 ≠ g) : Own w W' L := by
 refine ⟨h.below.trans ⟨hg.os, hg.tape, hg.output, hg.size, fun k hk => hg.block k (Nat.lt_of_lt_of_le hk h.below.size) ?_⟩, fun x hx => ⟨(h.blk x hx).1, ?_⟩, h.nodup⟩
 ·
  intro e
  have := (hR k (by first | exact e | exact e.symm)).1
  omega
 ·
  have hb := (h.blk x hx).2
  exact (hg.block x.1 hb.lt (fun e => (hR x.1 (by first | exact e | exact e.symm)).2 x hx rfl)).trans hb
end Go.Proofs.YtkaggddmhjifjaaGreatDoor
set_option linter.unusedSimpArgs false
set_option linter.unusedVariables false
namespace Go.Proofs.YtkaggddmhjifjaaGreatDoor
open Go.RowKit Go.Shelf Go.Sort
def laysSortSp_ren : Go.Shelf.Ren := ⟨fun | 6 => 103 | 15 => 161 | 14 => 160 | 28 => 224 | 29 => 225 | 20 => 216 | 21 => 217 | 22 => 218 | 23 => 219 | 24 => 220 | 25 => 221 | 26 => 222 | 27 => 223 | 46 => 265 | 47 => 266 | 48 => 267 | 49 => 268 | 50 => 269 | 57 => 304 | n => n, fun | 22 => 53 | 24 => 75 | 25 => 171 | 3 => 3 | 39 => 218 | 0 => 0 | 53 => 30 | 55 => 143 | 4 => 4 | 46 => 278 | 45 => 277 | 50 => 50 | 5 => 5 | 9 => 9 | 66 => 323 | 70 => 327 | 76 => 355 | 77 => 126 | n => n, fun | n => n⟩
theorem laysSortSp : Go.Proofs.SlLaysF0.n6 Tryz.prog laysSortSp_ren where
 mixed := by kernel_rfl
 f6 := ⟨ "slices.SortFunc[[]lineside/api.Span,lineside/api.Span]", by decide, Tryz.func103.trans (congrArg some (by kernel_rfl))⟩
 f14 := ⟨ "slices.pdqsortCmpFunc[lineside/api.Span]", by decide, Tryz.func160.trans (congrArg some (by kernel_rfl))⟩
 f15 := Tryz.func161.trans (congrArg some (by kernel_rfl))
 f20 := ⟨ "slices.insertionSortCmpFunc[lineside/api.Span]", by decide, Tryz.func216.trans (congrArg some (by kernel_rfl))⟩
 f21 := ⟨ "slices.heapSortCmpFunc[lineside/api.Span]", by decide, Tryz.func217.trans (congrArg some (by kernel_rfl))⟩
 f22 := ⟨ "slices.breakPatternsCmpFunc[lineside/api.Span]", by decide, Tryz.func218.trans (congrArg some (by kernel_rfl))⟩
 f23 := ⟨ "slices.choosePivotCmpFunc[lineside/api.Span]", by decide, Tryz.func219.trans (congrArg some (by kernel_rfl))⟩
 f24 := ⟨ "slices.reverseRangeCmpFunc[lineside/api.Span]", by decide, Tryz.func220.trans (congrArg some (by kernel_rfl))⟩
 f25 := ⟨ "slices.partialInsertionSortCmpFunc[lineside/api.Span]", by decide, Tryz.func221.trans (congrArg some (by kernel_rfl))⟩
 f26 := ⟨ "slices.partitionEqualCmpFunc[lineside/api.Span]", by decide, Tryz.func222.trans (congrArg some (by kernel_rfl))⟩
 f27 := ⟨ "slices.partitionCmpFunc[lineside/api.Span]", by decide, Tryz.func223.trans (congrArg some (by kernel_rfl))⟩
 f28 := Tryz.func224.trans (congrArg some (by kernel_rfl))
 f29 := Tryz.func225.trans (congrArg some (by kernel_rfl))
 f46 := ⟨ "slices.siftDownCmpFunc[lineside/api.Span]", by decide, Tryz.func265.trans (congrArg some (by kernel_rfl))⟩
 f47 := Tryz.func266.trans (congrArg some (by kernel_rfl))
 f48 := Tryz.func267.trans (congrArg some (by kernel_rfl))
 f49 := ⟨ "slices.medianAdjacentCmpFunc[lineside/api.Span]", by decide, Tryz.func268.trans (congrArg some (by kernel_rfl))⟩
 f50 := ⟨ "slices.medianCmpFunc[lineside/api.Span]", by decide, Tryz.func269.trans (congrArg some (by kernel_rfl))⟩
 f57 := ⟨ "slices.order2CmpFunc[lineside/api.Span]", by decide, Tryz.func304.trans (congrArg some (by kernel_rfl))⟩
 t0 := Tryz.underlying0
 a0 := Tryz.isAgg0
 z0 := Tryz.sizeOf0
 v0 := Tryz.zeroValue0
 t3 := Tryz.underlying3
 a3 := Tryz.isAgg3
 z3 := Tryz.sizeOf3
 v3 := Tryz.zeroValue3
 t4 := Tryz.underlying4
 a4 := Tryz.isAgg4
 z4 := Tryz.sizeOf4
 v4 := Tryz.zeroValue4
 t5 := Tryz.underlying5
 a5 := Tryz.isAgg5
 z5 := Tryz.sizeOf5
 v5 := Tryz.zeroValue5
 t9 := Tryz.underlying9
 a9 := Tryz.isAgg9
 z9 := Tryz.sizeOf9
 v9 := Tryz.zeroValue9
 t22 := Tryz.underlying53
 a22 := Tryz.isAgg53
 z22 := Tryz.sizeOf53
 v22 := Tryz.zeroValue53
 t25 := Tryz.underlying171
 a25 := Tryz.isAgg171
 z25 := Tryz.sizeOf171
 v25 := Tryz.zeroValue171
 t39 := Tryz.underlying218
 a39 := Tryz.isAgg218
 z39 := Tryz.sizeOf218
 v39 := Tryz.zeroValue218
 t45 := Tryz.underlying277
 a45 := Tryz.isAgg277
 z45 := Tryz.sizeOf277
 v45 := Tryz.zeroValue277
 t46 := Tryz.underlying278
 a46 := Tryz.isAgg278
 z46 := Tryz.sizeOf278
 v46 := Tryz.zeroValue278
 t50 := Tryz.underlying50
 a50 := Tryz.isAgg50
 z50 := Tryz.sizeOf50
 v50 := Tryz.zeroValue50
 t53 := Tryz.underlying30
 a53 := Tryz.isAgg30
 z53 := Tryz.sizeOf30
 v53 := Tryz.zeroValue30
 t55 := Tryz.underlying143
 a55 := Tryz.isAgg143
 z55 := Tryz.sizeOf143
 v55 := Tryz.zeroValue143
 t66 := Tryz.underlying323
 a66 := Tryz.isAgg323
 z66 := Tryz.sizeOf323
 v66 := Tryz.zeroValue323
 t70 := Tryz.underlying327
 a70 := Tryz.isAgg327
 z70 := Tryz.sizeOf327
 v70 := Tryz.zeroValue327
 t76 := Tryz.underlying355
 a76 := Tryz.isAgg355
 z76 := Tryz.sizeOf355
 v76 := Tryz.zeroValue355
 t77 := Tryz.underlying126
 a77 := Tryz.isAgg126
 z77 := Tryz.sizeOf126
 v77 := Tryz.zeroValue126
set_option maxHeartbeats 2000000 in
theorem norm2_k (a b : Sp) (w : World) : Calls Tryz.prog 104 #[.agg (encSp.enc a).toArray, .agg (encSp.enc b).toArray] w fun e w' => e = .returned (.int .i64 (cfSp a b)) ∧ GrowsD w w' := by
 obtain ⟨a1, a2, a3⟩ := a
 obtain ⟨b1, b2, b3⟩ := b
 have hc := fun x y W => compare_k x y W
 have ho := fun g x y W h0 h1 => or_k g 2 x y W h0 h1
 have hO : Own w _ [_, _] := Own.start2 w 75 75 #[.int .i64 a1, .int .i64 a2, .int .i64 a3] #[.int .i64 b1, .int .i64 b2, .int .i64 b3]
 have hG : GrowsD w ((w.alloc (.cells #[.int .i64 a1, .int .i64 a2, .int .i64 a3] 75)).alloc (.cells #[.int .i64 b1, .int .i64 b2, .int .i64 b3] 75)) := (GrowsD.alloc _ _).trans (GrowsD.alloc _ _)
 unfold cfSp
 simp only [encSp]
 go_enter Tryz.func104, Tryz.ntmps104
 go_wp2_with fail
 generalize ((w.alloc (.cells #[.int .i64 a1, .int .i64 a2, .int .i64 a3] 75)).alloc (.cells #[.int .i64 b1, .int .i64 b2, .int .i64 b3] 75)) = W0 at hO hG ⊢
 apply wp_region_lextu GrowsD (fun W => GrowsD.drew W) (fun _ _ _ h1 h2 => h1.trans h2) (fun _ => GrowsD) (fun _ _ _ h => h) (fun _ W => GrowsD.refl W) (fun _ _ => True) (fun _ => trivial) (fun _ _ _ _ _ _ _ => trivial)
 case hFl =>
  intro u
  simp only [List.map, fill, Act.put, List.setIfInBounds_toArray, List.set_cons_zero, List.set_cons_succ, Nat.reduceAdd, Nat.zero_add]
  rfl
 case hm => kernel_rfl
 case hB => kernel_rfl
 case hA => kernel_rfl
 case hap => kernel_rfl
 repeat (first
  |(
    apply LexTU.is
    ·
     (
     intro u w' hkg hpre hd
     have hk := hkg.below
     simp [WaitedU, Region.binds, Own1, Is] at hd
     refine lookedT_want ?_ ?_
     ·
      first
      | rfl
      |(simp [Region.wanted, yielded, hd]; done)
     intro K hK
     have hO2 := hO.grow hk; have hca := hO2.b0.cell; have hcb := hO2.b1.cell
     go_wp2_with (go_at_call 106; (with_reducible refine (hc _ _ _).mono ?_); rintro e w3 ⟨rfl, rfl⟩)
     try simp only [hd] at hK
     refine hK _ _ ?_ rfl
     first | exact GrowsD.refl _ | exact hb3))
  |(
    refine LexTU.one (TwoW (cmpI a1 b1) (cmpI a2 b2)) ?_ ?_
    ·
     (
     intro u w' hkg hpre hd
     have hk := hkg.below
     simp [WaitedU, Region.binds, Own1, Is] at hd
     refine lookedT_want ?_ ?_
     ·
      first
      | rfl
      |(simp [Region.wanted, yielded, hd]; done)
     intro K hK
     go_wp2_with fail
     try simp only [hd] at hK
     refine hK _ _ (GrowsD.alloc _ _) ⟨w'.heap.size, rfl, ?_, ?_, ?_⟩
     all_goals simp))
  |(
    apply LexTU.is
    ·
     (
     intro u w' hkg hpre hd
     have hk := hkg.below
     simp [WaitedU, Region.binds, Own1, Is] at hd
     first
     | obtain ⟨⟨g, hx, hlt, h0, h1⟩, -⟩ := hd
     | obtain ⟨g, hx, hlt, h0, h1⟩ := hd
     refine lookedT_want ?_ ?_
     ·
      first
      | rfl
      |(simp [Region.wanted, yielded, hx]; done)
     intro K hK
     go_wp2_with (go_at_call 105; (with_reducible refine (ho _ _ _ _ h0 h1).mono ?_); rintro e w3 ⟨rfl, rfl⟩)
     try simp only [hx] at hK
     refine hK _ _ (GrowsD.refl _) rfl)))
 refine LexTU.last (stG_last ?_) ?_
 ·
  simp only [List.nil_append, List.cons_append]
  repeat (refine ⟨?_, ?_⟩; · first | exact stableG_is _ | exact stableG_two)
  exact trivial
 intro u w2 hk2 _ hd
 simp only [List.nil_append, List.cons_append] at hd
 refine ⟨rfl, ?_⟩
 intro K hK
 have hl := hd 11 _ rfl
 simp only [Own1, Is] at hl
 clear hd
 go_wp2_with fail
 go_ret
 exact ⟨congrArg Ending.returned hl, hG.trans hk2⟩
end Go.Proofs.YtkaggddmhjifjaaGreatDoor
set_option linter.unusedSimpArgs false
set_option linter.unusedVariables false
namespace Go.Proofs.YtkaggddmhjifjaaGreatDoor
open Go.RowKit Go.Shelf Go.Sort
theorem putAt_toList : ∀ (vs : List Value) (a : Array Value) (o : Nat), o + vs.length ≤ a.size → (putAt a o vs).toList = a.toList.take o ++ vs ++ a.toList.drop (o + vs.length)
 | [], a, o, _ => by simp [putAt]
 | v :: vs, a, o, h => by
  simp only [List.length_cons] at h
  rw [putAt, putAt_toList vs (a.setIfInBounds o v) (o + 1) (by simp; omega)]
  have e1 : (a.setIfInBounds o v).toList.take (o + 1) = a.toList.take o ++ [v] := by
   rw [Array.toList_setIfInBounds, List.take_set, List.take_succ_eq_append_getElem (show o < a.toList.length by simp; omega)]
   rw [List.set_append_right _ _ (by simp; omega)]
   simp [Nat.min_eq_left (show o ≤ a.size by omega)]
  have e2 : (a.setIfInBounds o v).toList.drop (o + 1 + vs.length) = a.toList.drop (o + (v :: vs).length) := by
   rw [Array.toList_setIfInBounds, List.drop_set_of_lt (by omega)]
   congr 1
   simp only [List.length_cons]
   omega
  rw [e1, e2]
  simp
theorem take_mid (L V : List Value) (o N : Nat) (h1 : o + V.length ≤ N) (h2 : N ≤ L.length) : (L.take o ++ V ++ L.drop (o + V.length)).take N = (L.take N).take o ++ V ++ (L.take N).drop (o + V.length) := by
 have hA : (L.take o ++ V).length = o + V.length := by rw [List.length_append, List.length_take]; omega
 rw [List.take_append, List.take_of_length_le (by omega), hA, List.take_take, Nat.min_eq_left (by omega), List.drop_take]
theorem putAt_size : ∀ (vs : List Value) (a : Array Value) (o : Nat), (putAt a o vs).size = a.size
 | [], _, _ => rfl
 | v :: vs, a, o => by rw [putAt, putAt_size vs]; simp
section
variable {α : Type} {E : Laid α} {t : TypeId} {w w' : World} {base g c : Nat} {xs : List α}
theorem Laid.flat_set (xs : List α) {i : Nat} (hi : i < xs.length) (v : α) : E.flat (xs.set i v) = (E.flat xs).take (i * E.k) ++ E.enc v ++ (E.flat xs).drop (i * E.k + E.k) := by
 rw [List.set_eq_take_append_cons_drop, if_pos hi, E.flat_append, E.flat_cons, E.flat_take, show i * E.k + E.k = (i + 1) * E.k by rw [Nat.add_mul]; omega, E.flat_drop]
 simp
theorem OwnRows.put (ho : OwnRows E t w base (some ⟨g, 0, none⟩) c xs) {i : Nat} (hi : i < xs.length) (v : α) {cur : Array Value} (hb : Blk w g t cur) (hb' : Blk w' g t (putAt cur (i * E.k) (E.enc v))) : OwnRows E t w' base (some ⟨g, 0, none⟩) c (xs.set i v) := by
 obtain ⟨g', cur', e, h1, h2, h3, h4, h5, h6⟩ := ho.blk (by simp)
 simp only [Option.some.injEq, Addr.mk.injEq] at e
 obtain ⟨rfl, -, -⟩ := e
 have hcc : cur' = cur := by
  unfold Blk at h2 hb
  rw [hb] at h2
  simp at h2
  exact h2.symm
 subst hcc
 have hk := E.pos
 have hik : i * E.k + E.k ≤ xs.length * E.k := by
  rw [show i * E.k + E.k = (i + 1) * E.k by rw [Nat.add_mul]; omega]
  exact Nat.mul_le_mul_right _ hi
 have hxc : xs.length * E.k ≤ c * E.k := Nat.mul_le_mul_right _ h4
 have hsz : (cur'.toList).length = c * E.k := by rw [Array.length_toList, h3]
 refine ⟨by rw [E.flat_length], .inr ⟨g, c, putAt cur' (i * E.k) (E.enc v), by simp, h1, hb', by simpa using h4, h5, by rw [putAt_size, h3], ?_⟩⟩
 rw [List.length_set, putAt_toList _ _ _ (by rw [E.len, h3]; omega), E.flat_set xs hi, ← h6, E.len]
 have hmid := take_mid cur'.toList (E.enc v) (i * E.k) (xs.length * E.k) (by rw [E.len]; exact hik) (by rw [hsz]; exact hxc)
 rw [E.len] at hmid
 exact hmid
theorem OwnRows.ahead (ho : OwnRows E t w base (some ⟨g, 0, none⟩) c xs) (i : Nat) (hi : i ≤ xs.length) {cur cur' : Array Value} (hb : Blk w g t cur) (hb' : Blk w' g t cur') (hs : cur'.size = cur.size) (ht : cur'.toList.take (i * E.k) = cur.toList.take (i * E.k)) : OwnRows E t w' base (some ⟨g, 0, none⟩) c (xs.take i) := by
 obtain ⟨g', cur2, e, h1, h2, h3, h4, h5, h6⟩ := ho.blk (by simp)
 simp only [Option.some.injEq, Addr.mk.injEq] at e
 obtain ⟨rfl, -, -⟩ := e
 have hcc : cur2 = cur := by
  unfold Blk at h2 hb
  rw [hb] at h2
  simp at h2
  exact h2.symm
 subst hcc
 have hl : (xs.take i).length = i := by simp; omega
 refine ⟨by rw [E.flat_length], .inr ⟨g, c, cur', by simp, h1, hb', by rw [hl]; omega, h5, by rw [hs, h3], ?_⟩⟩
 rw [hl, ht, ← E.flat_take, ← h6, List.take_take, Nat.min_eq_left]
 exact Nat.mul_le_mul_right _ hi
end
theorem span_zero (w : World) : (zeroValue 75).run Tryz.prog w = .ok (.agg #[.int .i64 0, .int .i64 0, .int .i64 0]) w := by
 have h : (Tryz.prog.info? 75).map (·.zero) = some (some (.agg #[.int .i64 0, .int .i64 0, .int .i64 0])) := by kernel_rfl
 cases hq : Tryz.prog.info? 75 with
 | none => rw [hq] at h; cases h
 | some j =>
  have hj : j.zero = some (.agg #[.int .i64 0, .int .i64 0, .int .i64 0]) := by simpa [hq] using h
  simp [zeroValue, typeInfo, hq, hj]
def layS (cur : Array Value) (o : Nat) (cs : List Value) : Array Value := (cur.toList.take o ++ cs ++ cur.toList.drop (o + cs.length)).toArray
def zerosS (m : Nat) : List Value := (Builtin.zeroCells (Value.cells (.agg #[.int .i64 0, .int .i64 0, .int .i64 0])) m).toList
theorem zerosS_len (m : Nat) : (zerosS m).length = m * 3 := by simp [zerosS, Builtin.zeroCells, Value.cells]
theorem zerosS_one (m : Nat) : ∀ v ∈ zerosS m, v.oneCell' = true := by
 intro v hv
 simp only [zerosS, Builtin.zeroCells, Value.cells] at hv
 simp at hv
 obtain ⟨a, _, rfl⟩ := hv
 have h3 : a % 3 = 0 ∨ a % 3 = 1 ∨ a % 3 = 2 := by omega
 rcases h3 with h | h | h <;> rw [h] <;> rfl
theorem run_clear_s {w : World} {ty : TypeId} (g o m c : Nat) (cur : Array Value) (hg : Blk w g 75 cur) (hm : 0 < m) (hfit : o + m * 3 ≤ cur.size) :
  (Builtin.clear_ #[53] ty #[.slice (some ⟨g, o, none⟩) m c]).run Tryz.prog w = .ok (.tuple #[]) (w.setRow g (layS cur o (zerosS m))) := by
 have hst := run_storeCells_at Tryz.prog g o 75 (zerosS m) 0 cur w hg (by rw [zerosS_len]; omega) (zerosS_one m)
 simp only [Nat.add_zero] at hst
 have hz := span_zero w
 have hm0 : m ≠ 0 := by omega
 cases m with
 | zero => omega
 | succ m =>
  simp only [zerosS] at hst
  simp [Builtin.clear_, run_underlying Tryz.underlying53, hz, hst, layS, zerosS]
theorem wpList_clear_s {ops : Array Oper} {rest : List Oper} {o : Oper} {a : Act} {w : World} {Q : Exit → Act → World → Prop} (hgd : o.guard = none) (s : Operand) (ho : o.op = .call { callee := .builtin .clear, args := #[s], argTypes := #[53] })
  (g off m c : Nat) (hs : a.eval s = .slice (some ⟨g, off, none⟩) m c) (cur : Array Value) (hg : Blk w g 75 cur) (hm : 0 < m) (hfit : off + m * 3 ≤ cur.size)
  (h : ∀ W, Blk W g 75 (layS cur off (zerosS m)) → W.heap.size = w.heap.size → (∀ k, k ≠ g → W.heap[k]? = w.heap[k]?) → W.os = w.os ∧ W.tape = w.tape ∧ W.output = w.output → wpList Tryz.prog ops Q rest (a.put o.dst (.tuple #[])) W) : wpList Tryz.prog ops Q (o :: rest) a w := by
 refine wpList_plain hgd fun K hK => ?_
 have hrun := run_clear_s (ty := o.type) g off m c cur hg hm hfit
 unfold Oper.wp
 simp [execOp, ho, resolve, invoke, builtin, hs, hrun, Result.andThen]
 exact hK _ _ (h _ (Blk.row hg _) (by simp) (fun k hk => setRow_other w g k _ hk) ⟨rfl, rfl, rfl⟩)
theorem span_elem : Tryz.prog.elem 53 = 75 := by kernel_rfl
theorem span_of' : Tryz.prog.underlying 53 = some (.slice (Tryz.prog.elem 53)) := by rw [span_elem]; exact Tryz.underlying53
theorem span_size (w : World) : (sizeOf 75).run Tryz.prog w = .ok 3 w := Tryz.sizeOf75 w
theorem add0s (g i : Nat) : (⟨g, 0, none⟩ : Addr).add i = ⟨g, i, none⟩ := by rw [Addr.add_lit]; simp
theorem slice_s_l (w : World) (g len cap i : Nat) (h1 : i ≤ len) (h2 : i < cap) (h3 : len ≤ cap) : (Instr.slice 53 (.slice (some ⟨g, 0, none⟩) len cap) (some (.int .i64 (i : Int))) none none).run Tryz.prog w = .ok (.slice (some ⟨g, i * 3, none⟩) (len - i) (cap - i)) w := by
 rw [run_slice_l w 53 (some ⟨g, 0, none⟩) len cap span_of' .i64 i (by omega) (by omega), span_elem, span_size]
 simp [Result.andThen, sliced, add0s]
 omega
theorem slice_s_h (w : World) (g len cap i : Nat) (h1 : i ≤ cap) : (Instr.slice 53 (.slice (some ⟨g, 0, none⟩) len cap) none (some (.int .i64 (i : Int))) none).run Tryz.prog w = .ok (.slice (some ⟨g, 0, none⟩) i cap) w := by
 rw [run_slice_h w 53 (some ⟨g, 0, none⟩) len cap span_of' .i64 i (by omega) (by omega), span_elem, span_size]
 simp [Result.andThen, sliced, add0s]
end Go.Proofs.YtkaggddmhjifjaaGreatDoor
