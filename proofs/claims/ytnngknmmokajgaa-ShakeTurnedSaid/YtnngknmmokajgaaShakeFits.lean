/- Whether an end fits a PDU (of the program). -/
import Derived.Test.YtnngknmmokajgaaShakeSmall
set_option linter.unusedSimpArgs false
set_option linter.unusedVariables false
namespace Go.Proofs.Ytnngknmmokajgaa
open Go.RowKit Go.Shelf

set_option maxHeartbeats 4000000 in
theorem shfits_a (p : Peer10) (q : P7) (kind : Int) (A : Option Addr) (n c : Nat) (w : World) (hn : q.body.length = n) (hlen : q.body.length ≤ 2000) (hm : may q = false) :
    Calls Try.prog 32 #[.agg (peerC p), .agg #[.int .i64 q.kind, .int .i64 q.dir, .int .i64 q.train, q32 q.a, q32 q.b, .slice A n c, q64 q.mac], .int .i64 kind] w fun e w' => e = .returned (.bool (false)) ∧ Below w.heap.size w w' := by
  have hmay := fun W => may_k q A n c W hn.symm (by omega)
  have hdir := fun W => shdir_k p W
  rw [hm] at hmay
  clear hm
  unfold peerC at hdir ⊢
  generalize dir10 p = dp at *
  go_enter Try.func32, Try.ntmps32
  go_wp2_with fail
  obtain ⟨w1, hw1⟩ : ∃ w1, w1 = (w.alloc (.cells #[.int .i64 p.side, .int .i64 p.train, q32 p.base.k0, q32 p.base.k1, q32 p.base.k2, q32 p.base.k3, .int .i64 p.state, q32 p.a, q32 p.b, q32 p.key.k0, q32 p.key.k1, q32 p.key.k2, q32 p.key.k3, .bool p.half, q32 p.a2, q32 p.b2] 26)).alloc (.cells #[.int .i64 q.kind, .int .i64 q.dir, .int .i64 q.train, q32 q.a, q32 q.b, .slice A n c, q64 q.mac] 30) := ⟨_, rfl⟩
  rw [← hw1]
  have hpe : Blk w1 w.heap.size 26 #[.int .i64 p.side, .int .i64 p.train, q32 p.base.k0, q32 p.base.k1, q32 p.base.k2, q32 p.base.k3, .int .i64 p.state, q32 p.a, q32 p.b, q32 p.key.k0, q32 p.key.k1, q32 p.key.k2, q32 p.key.k3, .bool p.half, q32 p.a2, q32 p.b2] := by rw [hw1]; exact (Blk.new _ _ _).alloc _
  have hqe : Blk w1 (w.heap.size + 1) 30 #[.int .i64 q.kind, .int .i64 q.dir, .int .i64 q.train, q32 q.a, q32 q.b, .slice A n c, q64 q.mac] := by rw [hw1]; exact Blk.newAt _ _ _ _ (by simp)
  have hb01 : Below w.heap.size w w1 := by rw [hw1]; exact ((Below.refl _ _).alloc (Nat.le_refl _) _).alloc (by simp) _
  have hlk1 : w.heap.size < w1.heap.size := hpe.lt
  have hlp1 : w.heap.size + 1 < w1.heap.size := hqe.lt
  have hck1 := hpe.cell
  have hcq1 := hqe.cell
  clear hw1
  apply wp_region_lex
  case hFl =>
    intro u
    simp only [List.map, fill, Act.put, List.setIfInBounds_toArray, List.set_cons_zero, List.set_cons_succ, Nat.reduceAdd, Nat.zero_add]
    rfl
  case hm => kernel_rfl
  case hB => kernel_rfl
  case hap => kernel_rfl
  apply Lex.is
  · (intro u w' hk hd
     simp [Waited, Region.binds, Is] at hd
     refine looked_want (by first | rfl | simp [Region.wanted, yielded, hd]) ?_
     intro K hK
     obtain ⟨hcR, _⟩ := bcell hk
     go_wp2_with (fail)
     try simp only [hd] at hK
     refine hK _ _ ?_ rfl
     first | exact Below.refl _ _ | exact hb3)
  apply Lex.is
  · (intro u w' hk hd
     simp [Waited, Region.binds, Is] at hd
     refine looked_want (by first | rfl | simp [Region.wanted, yielded, hd]) ?_
     intro K hK
     obtain ⟨hcR, _⟩ := bcell hk
     go_wp2_with ((go_at_call 42; (with_reducible refine (hmay _).mono ?_); rintro e wx ⟨rfl, hb3⟩))
     try simp only [hd] at hK
     refine hK _ _ ?_ rfl
     first | exact Below.refl _ _ | exact hb3)
  apply Lex.is
  · (intro u w' hk hd
     simp [Waited, Region.binds, Is] at hd
     refine looked_want (by first | rfl | simp [Region.wanted, yielded, hd]) ?_
     intro K hK
     obtain ⟨hcR, _⟩ := bcell hk
     go_wp2_with (fail)
     try simp only [hd] at hK
     refine hK _ _ ?_ rfl
     first | exact Below.refl _ _ | exact hb3)
  iterate 4 (
    refine Lex.is (c := undef) ?_ ?_
    · (intro u w' hk hd
       simp [Waited, Region.binds, Is] at hd
       exact looked_skip (by simp [Region.wanted, yielded, hd]) rfl)
    )
  iterate 2 (
    apply Lex.is
    · (intro u w' hk hd
       simp [Waited, Region.binds, Is] at hd
       refine looked_want (by first | rfl | simp [Region.wanted, yielded, hd]) ?_
       intro K hK
       obtain ⟨hcR, _⟩ := bcell hk
       go_wp2_with (fail)
       try simp only [hd] at hK
       refine hK _ _ ?_ rfl
       first | exact Below.refl _ _ | exact hb3)
    )
  iterate 5 (
    refine Lex.is (c := undef) ?_ ?_
    · (intro u w' hk hd
       simp [Waited, Region.binds, Is] at hd
       exact looked_skip (by simp [Region.wanted, yielded, hd]) rfl)
    )
  iterate 2 (
    apply Lex.is
    · (intro u w' hk hd
       simp [Waited, Region.binds, Is] at hd
       refine looked_want (by first | rfl | simp [Region.wanted, yielded, hd]) ?_
       intro K hK
       obtain ⟨hcR, _⟩ := bcell hk
       go_wp2_with (fail)
       try simp only [hd] at hK
       refine hK _ _ ?_ rfl
       first | exact Below.refl _ _ | exact hb3)
    )
  iterate 5 (
    refine Lex.is (c := undef) ?_ ?_
    · (intro u w' hk hd
       simp [Waited, Region.binds, Is] at hd
       exact looked_skip (by simp [Region.wanted, yielded, hd]) rfl)
    )
  iterate 2 (
    apply Lex.is
    · (intro u w' hk hd
       simp [Waited, Region.binds, Is] at hd
       refine looked_want (by first | rfl | simp [Region.wanted, yielded, hd]) ?_
       intro K hK
       obtain ⟨hcR, _⟩ := bcell hk
       go_wp2_with (fail)
       try simp only [hd] at hK
       refine hK _ _ ?_ rfl
       first | exact Below.refl _ _ | exact hb3)
    )
  apply Lex.nil
  intro u w' hk hd
  simp only [List.nil_append, List.cons_append] at hd
  have hlast := hd 22 _ rfl
  simp only [Is] at hlast
  clear hd
  go_wp2_with fail
  go_ret
  exact ⟨congrArg Ending.returned hlast, below_then hb01 hk⟩
set_option maxHeartbeats 4000000 in
theorem shfits_b (p : Peer10) (q : P7) (kind : Int) (A : Option Addr) (n c : Nat) (w : World) (hn : q.body.length = n) (hlen : q.body.length ≤ 2000) (hm : may q = true) (hk : q.kind ≠ kind) :
    Calls Try.prog 32 #[.agg (peerC p), .agg #[.int .i64 q.kind, .int .i64 q.dir, .int .i64 q.train, q32 q.a, q32 q.b, .slice A n c, q64 q.mac], .int .i64 kind] w fun e w' => e = .returned (.bool (false)) ∧ Below w.heap.size w w' := by
  have hmay := fun W => may_k q A n c W hn.symm (by omega)
  have hdir := fun W => shdir_k p W
  rw [hm] at hmay
  have hk1 : (q.kind == kind) = false := by simpa using hk
  clear hm hk
  unfold peerC at hdir ⊢
  generalize dir10 p = dp at *
  go_enter Try.func32, Try.ntmps32
  go_wp2_with fail
  obtain ⟨w1, hw1⟩ : ∃ w1, w1 = (w.alloc (.cells #[.int .i64 p.side, .int .i64 p.train, q32 p.base.k0, q32 p.base.k1, q32 p.base.k2, q32 p.base.k3, .int .i64 p.state, q32 p.a, q32 p.b, q32 p.key.k0, q32 p.key.k1, q32 p.key.k2, q32 p.key.k3, .bool p.half, q32 p.a2, q32 p.b2] 26)).alloc (.cells #[.int .i64 q.kind, .int .i64 q.dir, .int .i64 q.train, q32 q.a, q32 q.b, .slice A n c, q64 q.mac] 30) := ⟨_, rfl⟩
  rw [← hw1]
  have hpe : Blk w1 w.heap.size 26 #[.int .i64 p.side, .int .i64 p.train, q32 p.base.k0, q32 p.base.k1, q32 p.base.k2, q32 p.base.k3, .int .i64 p.state, q32 p.a, q32 p.b, q32 p.key.k0, q32 p.key.k1, q32 p.key.k2, q32 p.key.k3, .bool p.half, q32 p.a2, q32 p.b2] := by rw [hw1]; exact (Blk.new _ _ _).alloc _
  have hqe : Blk w1 (w.heap.size + 1) 30 #[.int .i64 q.kind, .int .i64 q.dir, .int .i64 q.train, q32 q.a, q32 q.b, .slice A n c, q64 q.mac] := by rw [hw1]; exact Blk.newAt _ _ _ _ (by simp)
  have hb01 : Below w.heap.size w w1 := by rw [hw1]; exact ((Below.refl _ _).alloc (Nat.le_refl _) _).alloc (by simp) _
  have hlk1 : w.heap.size < w1.heap.size := hpe.lt
  have hlp1 : w.heap.size + 1 < w1.heap.size := hqe.lt
  have hck1 := hpe.cell
  have hcq1 := hqe.cell
  clear hw1
  apply wp_region_lex
  case hFl =>
    intro u
    simp only [List.map, fill, Act.put, List.setIfInBounds_toArray, List.set_cons_zero, List.set_cons_succ, Nat.reduceAdd, Nat.zero_add]
    rfl
  case hm => kernel_rfl
  case hB => kernel_rfl
  case hap => kernel_rfl
  apply Lex.is
  · (intro u w' hk hd
     simp [Waited, Region.binds, Is] at hd
     refine looked_want (by first | rfl | simp [Region.wanted, yielded, hd]) ?_
     intro K hK
     obtain ⟨hcR, _⟩ := bcell hk
     go_wp2_with (fail)
     try simp only [hd] at hK
     refine hK _ _ ?_ rfl
     first | exact Below.refl _ _ | exact hb3)
  apply Lex.is
  · (intro u w' hk hd
     simp [Waited, Region.binds, Is] at hd
     refine looked_want (by first | rfl | simp [Region.wanted, yielded, hd]) ?_
     intro K hK
     obtain ⟨hcR, _⟩ := bcell hk
     go_wp2_with ((go_at_call 42; (with_reducible refine (hmay _).mono ?_); rintro e wx ⟨rfl, hb3⟩))
     try simp only [hd] at hK
     refine hK _ _ ?_ rfl
     first | exact Below.refl _ _ | exact hb3)
  apply Lex.is
  · (intro u w' hk hd
     simp [Waited, Region.binds, Is] at hd
     refine looked_want (by first | rfl | simp [Region.wanted, yielded, hd]) ?_
     intro K hK
     obtain ⟨hcR, _⟩ := bcell hk
     go_wp2_with (fail)
     try simp only [hd] at hK
     refine hK _ _ ?_ rfl
     first | exact Below.refl _ _ | exact hb3)
  iterate 4 (
    apply Lex.is
    · (intro u w' hk hd
       simp [Waited, Region.binds, Is] at hd
       refine looked_want (by first | rfl | simp [Region.wanted, yielded, hd]) ?_
       intro K hK
       obtain ⟨hcR, _⟩ := bcell hk
       go_wp2_with (fail)
       try simp only [hd] at hK
       refine hK _ _ ?_ rfl
       first | exact Below.refl _ _ | exact hb3)
    )
  iterate 2 (
    apply Lex.is
    · (intro u w' hk hd
       simp [Waited, Region.binds, Is] at hd
       refine looked_want (by first | rfl | simp [Region.wanted, yielded, hd]) ?_
       intro K hK
       obtain ⟨hcR, _⟩ := bcell hk
       go_wp2_with (fail)
       try simp only [hd] at hK
       refine hK _ _ ?_ rfl
       first | exact Below.refl _ _ | exact hb3)
    )
  iterate 5 (
    refine Lex.is (c := undef) ?_ ?_
    · (intro u w' hk hd
       simp [Waited, Region.binds, Is] at hd
       exact looked_skip (by simp [Region.wanted, yielded, hd]) rfl)
    )
  iterate 2 (
    apply Lex.is
    · (intro u w' hk hd
       simp [Waited, Region.binds, Is] at hd
       refine looked_want (by first | rfl | simp [Region.wanted, yielded, hd]) ?_
       intro K hK
       obtain ⟨hcR, _⟩ := bcell hk
       go_wp2_with (fail)
       try simp only [hd] at hK
       refine hK _ _ ?_ rfl
       first | exact Below.refl _ _ | exact hb3)
    )
  iterate 5 (
    refine Lex.is (c := undef) ?_ ?_
    · (intro u w' hk hd
       simp [Waited, Region.binds, Is] at hd
       exact looked_skip (by simp [Region.wanted, yielded, hd]) rfl)
    )
  iterate 2 (
    apply Lex.is
    · (intro u w' hk hd
       simp [Waited, Region.binds, Is] at hd
       refine looked_want (by first | rfl | simp [Region.wanted, yielded, hd]) ?_
       intro K hK
       obtain ⟨hcR, _⟩ := bcell hk
       go_wp2_with (fail)
       try simp only [hd] at hK
       refine hK _ _ ?_ rfl
       first | exact Below.refl _ _ | exact hb3)
    )
  apply Lex.nil
  intro u w' hk hd
  simp only [List.nil_append, List.cons_append] at hd
  have hlast := hd 22 _ rfl
  simp only [Is] at hlast
  clear hd
  go_wp2_with fail
  go_ret
  exact ⟨congrArg Ending.returned hlast, below_then hb01 hk⟩
set_option maxHeartbeats 4000000 in
theorem shfits_c (p : Peer10) (q : P7) (kind : Int) (A : Option Addr) (n c : Nat) (w : World) (hn : q.body.length = n) (hlen : q.body.length ≤ 2000) (hm : may q = true) (hk : q.kind = kind) (hd0 : q.dir = dir10 p) :
    Calls Try.prog 32 #[.agg (peerC p), .agg #[.int .i64 q.kind, .int .i64 q.dir, .int .i64 q.train, q32 q.a, q32 q.b, .slice A n c, q64 q.mac], .int .i64 kind] w fun e w' => e = .returned (.bool (false)) ∧ Below w.heap.size w w' := by
  have hmay := fun W => may_k q A n c W hn.symm (by omega)
  have hdir := fun W => shdir_k p W
  rw [hm] at hmay
  have hk1 : (q.kind == kind) = true := by simpa using hk
  have hd1 : (q.dir != dir10 p) = false := by simpa using hd0
  clear hm hk hd0
  unfold peerC at hdir ⊢
  generalize dir10 p = dp at *
  go_enter Try.func32, Try.ntmps32
  go_wp2_with fail
  obtain ⟨w1, hw1⟩ : ∃ w1, w1 = (w.alloc (.cells #[.int .i64 p.side, .int .i64 p.train, q32 p.base.k0, q32 p.base.k1, q32 p.base.k2, q32 p.base.k3, .int .i64 p.state, q32 p.a, q32 p.b, q32 p.key.k0, q32 p.key.k1, q32 p.key.k2, q32 p.key.k3, .bool p.half, q32 p.a2, q32 p.b2] 26)).alloc (.cells #[.int .i64 q.kind, .int .i64 q.dir, .int .i64 q.train, q32 q.a, q32 q.b, .slice A n c, q64 q.mac] 30) := ⟨_, rfl⟩
  rw [← hw1]
  have hpe : Blk w1 w.heap.size 26 #[.int .i64 p.side, .int .i64 p.train, q32 p.base.k0, q32 p.base.k1, q32 p.base.k2, q32 p.base.k3, .int .i64 p.state, q32 p.a, q32 p.b, q32 p.key.k0, q32 p.key.k1, q32 p.key.k2, q32 p.key.k3, .bool p.half, q32 p.a2, q32 p.b2] := by rw [hw1]; exact (Blk.new _ _ _).alloc _
  have hqe : Blk w1 (w.heap.size + 1) 30 #[.int .i64 q.kind, .int .i64 q.dir, .int .i64 q.train, q32 q.a, q32 q.b, .slice A n c, q64 q.mac] := by rw [hw1]; exact Blk.newAt _ _ _ _ (by simp)
  have hb01 : Below w.heap.size w w1 := by rw [hw1]; exact ((Below.refl _ _).alloc (Nat.le_refl _) _).alloc (by simp) _
  have hlk1 : w.heap.size < w1.heap.size := hpe.lt
  have hlp1 : w.heap.size + 1 < w1.heap.size := hqe.lt
  have hck1 := hpe.cell
  have hcq1 := hqe.cell
  clear hw1
  apply wp_region_lex
  case hFl =>
    intro u
    simp only [List.map, fill, Act.put, List.setIfInBounds_toArray, List.set_cons_zero, List.set_cons_succ, Nat.reduceAdd, Nat.zero_add]
    rfl
  case hm => kernel_rfl
  case hB => kernel_rfl
  case hap => kernel_rfl
  apply Lex.is
  · (intro u w' hk hd
     simp [Waited, Region.binds, Is] at hd
     refine looked_want (by first | rfl | simp [Region.wanted, yielded, hd]) ?_
     intro K hK
     obtain ⟨hcR, _⟩ := bcell hk
     go_wp2_with (fail)
     try simp only [hd] at hK
     refine hK _ _ ?_ rfl
     first | exact Below.refl _ _ | exact hb3)
  apply Lex.is
  · (intro u w' hk hd
     simp [Waited, Region.binds, Is] at hd
     refine looked_want (by first | rfl | simp [Region.wanted, yielded, hd]) ?_
     intro K hK
     obtain ⟨hcR, _⟩ := bcell hk
     go_wp2_with ((go_at_call 42; (with_reducible refine (hmay _).mono ?_); rintro e wx ⟨rfl, hb3⟩))
     try simp only [hd] at hK
     refine hK _ _ ?_ rfl
     first | exact Below.refl _ _ | exact hb3)
  apply Lex.is
  · (intro u w' hk hd
     simp [Waited, Region.binds, Is] at hd
     refine looked_want (by first | rfl | simp [Region.wanted, yielded, hd]) ?_
     intro K hK
     obtain ⟨hcR, _⟩ := bcell hk
     go_wp2_with (fail)
     try simp only [hd] at hK
     refine hK _ _ ?_ rfl
     first | exact Below.refl _ _ | exact hb3)
  iterate 4 (
    apply Lex.is
    · (intro u w' hk hd
       simp [Waited, Region.binds, Is] at hd
       refine looked_want (by first | rfl | simp [Region.wanted, yielded, hd]) ?_
       intro K hK
       obtain ⟨hcR, _⟩ := bcell hk
       go_wp2_with (fail)
       try simp only [hd] at hK
       refine hK _ _ ?_ rfl
       first | exact Below.refl _ _ | exact hb3)
    )
  iterate 2 (
    apply Lex.is
    · (intro u w' hk hd
       simp [Waited, Region.binds, Is] at hd
       refine looked_want (by first | rfl | simp [Region.wanted, yielded, hd]) ?_
       intro K hK
       obtain ⟨hcR, _⟩ := bcell hk
       go_wp2_with (fail)
       try simp only [hd] at hK
       refine hK _ _ ?_ rfl
       first | exact Below.refl _ _ | exact hb3)
    )
  iterate 3 (
    apply Lex.is
    · (intro u w' hk hd
       simp [Waited, Region.binds, Is] at hd
       refine looked_want (by first | rfl | simp [Region.wanted, yielded, hd]) ?_
       intro K hK
       obtain ⟨hcR, _⟩ := bcell hk
       go_wp2_with (fail)
       try simp only [hd] at hK
       refine hK _ _ ?_ rfl
       first | exact Below.refl _ _ | exact hb3)
    )
  apply Lex.is
  · (intro u w' hk hd
     simp [Waited, Region.binds, Is] at hd
     refine looked_want (by first | rfl | simp [Region.wanted, yielded, hd]) ?_
     intro K hK
     obtain ⟨hcR, _⟩ := bcell hk
     go_wp2_with ((go_at_call 40; (with_reducible refine (hdir _).mono ?_); rintro e wx ⟨rfl, hb3⟩))
     try simp only [hd] at hK
     refine hK _ _ ?_ rfl
     first | exact Below.refl _ _ | exact hb3)
  apply Lex.is
  · (intro u w' hk hd
     simp [Waited, Region.binds, Is] at hd
     refine looked_want (by first | rfl | simp [Region.wanted, yielded, hd]) ?_
     intro K hK
     obtain ⟨hcR, _⟩ := bcell hk
     go_wp2_with (fail)
     try simp only [hd] at hK
     refine hK _ _ ?_ rfl
     first | exact Below.refl _ _ | exact hb3)
  iterate 2 (
    apply Lex.is
    · (intro u w' hk hd
       simp [Waited, Region.binds, Is] at hd
       refine looked_want (by first | rfl | simp [Region.wanted, yielded, hd]) ?_
       intro K hK
       obtain ⟨hcR, _⟩ := bcell hk
       go_wp2_with (fail)
       try simp only [hd] at hK
       refine hK _ _ ?_ rfl
       first | exact Below.refl _ _ | exact hb3)
    )
  iterate 5 (
    refine Lex.is (c := undef) ?_ ?_
    · (intro u w' hk hd
       simp [Waited, Region.binds, Is] at hd
       exact looked_skip (by simp [Region.wanted, yielded, hd]) rfl)
    )
  iterate 2 (
    apply Lex.is
    · (intro u w' hk hd
       simp [Waited, Region.binds, Is] at hd
       refine looked_want (by first | rfl | simp [Region.wanted, yielded, hd]) ?_
       intro K hK
       obtain ⟨hcR, _⟩ := bcell hk
       go_wp2_with (fail)
       try simp only [hd] at hK
       refine hK _ _ ?_ rfl
       first | exact Below.refl _ _ | exact hb3)
    )
  apply Lex.nil
  intro u w' hk hd
  simp only [List.nil_append, List.cons_append] at hd
  have hlast := hd 22 _ rfl
  simp only [Is] at hlast
  clear hd
  go_wp2_with fail
  go_ret
  exact ⟨congrArg Ending.returned hlast, below_then hb01 hk⟩
set_option maxHeartbeats 4000000 in
theorem shfits_d (p : Peer10) (q : P7) (kind : Int) (A : Option Addr) (n c : Nat) (w : World) (hn : q.body.length = n) (hlen : q.body.length ≤ 2000) (hm : may q = true) (hk : q.kind = kind) (hd0 : q.dir ≠ dir10 p) :
    Calls Try.prog 32 #[.agg (peerC p), .agg #[.int .i64 q.kind, .int .i64 q.dir, .int .i64 q.train, q32 q.a, q32 q.b, .slice A n c, q64 q.mac], .int .i64 kind] w fun e w' => e = .returned (.bool (q.train == p.train)) ∧ Below w.heap.size w w' := by
  have hmay := fun W => may_k q A n c W hn.symm (by omega)
  have hdir := fun W => shdir_k p W
  rw [hm] at hmay
  have hk1 : (q.kind == kind) = true := by simpa using hk
  have hd1 : (q.dir != dir10 p) = true := by simpa using hd0
  clear hm hk hd0
  unfold peerC at hdir ⊢
  generalize dir10 p = dp at *
  go_enter Try.func32, Try.ntmps32
  go_wp2_with fail
  obtain ⟨w1, hw1⟩ : ∃ w1, w1 = (w.alloc (.cells #[.int .i64 p.side, .int .i64 p.train, q32 p.base.k0, q32 p.base.k1, q32 p.base.k2, q32 p.base.k3, .int .i64 p.state, q32 p.a, q32 p.b, q32 p.key.k0, q32 p.key.k1, q32 p.key.k2, q32 p.key.k3, .bool p.half, q32 p.a2, q32 p.b2] 26)).alloc (.cells #[.int .i64 q.kind, .int .i64 q.dir, .int .i64 q.train, q32 q.a, q32 q.b, .slice A n c, q64 q.mac] 30) := ⟨_, rfl⟩
  rw [← hw1]
  have hpe : Blk w1 w.heap.size 26 #[.int .i64 p.side, .int .i64 p.train, q32 p.base.k0, q32 p.base.k1, q32 p.base.k2, q32 p.base.k3, .int .i64 p.state, q32 p.a, q32 p.b, q32 p.key.k0, q32 p.key.k1, q32 p.key.k2, q32 p.key.k3, .bool p.half, q32 p.a2, q32 p.b2] := by rw [hw1]; exact (Blk.new _ _ _).alloc _
  have hqe : Blk w1 (w.heap.size + 1) 30 #[.int .i64 q.kind, .int .i64 q.dir, .int .i64 q.train, q32 q.a, q32 q.b, .slice A n c, q64 q.mac] := by rw [hw1]; exact Blk.newAt _ _ _ _ (by simp)
  have hb01 : Below w.heap.size w w1 := by rw [hw1]; exact ((Below.refl _ _).alloc (Nat.le_refl _) _).alloc (by simp) _
  have hlk1 : w.heap.size < w1.heap.size := hpe.lt
  have hlp1 : w.heap.size + 1 < w1.heap.size := hqe.lt
  have hck1 := hpe.cell
  have hcq1 := hqe.cell
  clear hw1
  apply wp_region_lex
  case hFl =>
    intro u
    simp only [List.map, fill, Act.put, List.setIfInBounds_toArray, List.set_cons_zero, List.set_cons_succ, Nat.reduceAdd, Nat.zero_add]
    rfl
  case hm => kernel_rfl
  case hB => kernel_rfl
  case hap => kernel_rfl
  apply Lex.is
  · (intro u w' hk hd
     simp [Waited, Region.binds, Is] at hd
     refine looked_want (by first | rfl | simp [Region.wanted, yielded, hd]) ?_
     intro K hK
     obtain ⟨hcR, _⟩ := bcell hk
     go_wp2_with (fail)
     try simp only [hd] at hK
     refine hK _ _ ?_ rfl
     first | exact Below.refl _ _ | exact hb3)
  apply Lex.is
  · (intro u w' hk hd
     simp [Waited, Region.binds, Is] at hd
     refine looked_want (by first | rfl | simp [Region.wanted, yielded, hd]) ?_
     intro K hK
     obtain ⟨hcR, _⟩ := bcell hk
     go_wp2_with ((go_at_call 42; (with_reducible refine (hmay _).mono ?_); rintro e wx ⟨rfl, hb3⟩))
     try simp only [hd] at hK
     refine hK _ _ ?_ rfl
     first | exact Below.refl _ _ | exact hb3)
  apply Lex.is
  · (intro u w' hk hd
     simp [Waited, Region.binds, Is] at hd
     refine looked_want (by first | rfl | simp [Region.wanted, yielded, hd]) ?_
     intro K hK
     obtain ⟨hcR, _⟩ := bcell hk
     go_wp2_with (fail)
     try simp only [hd] at hK
     refine hK _ _ ?_ rfl
     first | exact Below.refl _ _ | exact hb3)
  iterate 4 (
    apply Lex.is
    · (intro u w' hk hd
       simp [Waited, Region.binds, Is] at hd
       refine looked_want (by first | rfl | simp [Region.wanted, yielded, hd]) ?_
       intro K hK
       obtain ⟨hcR, _⟩ := bcell hk
       go_wp2_with (fail)
       try simp only [hd] at hK
       refine hK _ _ ?_ rfl
       first | exact Below.refl _ _ | exact hb3)
    )
  iterate 2 (
    apply Lex.is
    · (intro u w' hk hd
       simp [Waited, Region.binds, Is] at hd
       refine looked_want (by first | rfl | simp [Region.wanted, yielded, hd]) ?_
       intro K hK
       obtain ⟨hcR, _⟩ := bcell hk
       go_wp2_with (fail)
       try simp only [hd] at hK
       refine hK _ _ ?_ rfl
       first | exact Below.refl _ _ | exact hb3)
    )
  iterate 3 (
    apply Lex.is
    · (intro u w' hk hd
       simp [Waited, Region.binds, Is] at hd
       refine looked_want (by first | rfl | simp [Region.wanted, yielded, hd]) ?_
       intro K hK
       obtain ⟨hcR, _⟩ := bcell hk
       go_wp2_with (fail)
       try simp only [hd] at hK
       refine hK _ _ ?_ rfl
       first | exact Below.refl _ _ | exact hb3)
    )
  apply Lex.is
  · (intro u w' hk hd
     simp [Waited, Region.binds, Is] at hd
     refine looked_want (by first | rfl | simp [Region.wanted, yielded, hd]) ?_
     intro K hK
     obtain ⟨hcR, _⟩ := bcell hk
     go_wp2_with ((go_at_call 40; (with_reducible refine (hdir _).mono ?_); rintro e wx ⟨rfl, hb3⟩))
     try simp only [hd] at hK
     refine hK _ _ ?_ rfl
     first | exact Below.refl _ _ | exact hb3)
  apply Lex.is
  · (intro u w' hk hd
     simp [Waited, Region.binds, Is] at hd
     refine looked_want (by first | rfl | simp [Region.wanted, yielded, hd]) ?_
     intro K hK
     obtain ⟨hcR, _⟩ := bcell hk
     go_wp2_with (fail)
     try simp only [hd] at hK
     refine hK _ _ ?_ rfl
     first | exact Below.refl _ _ | exact hb3)
  iterate 2 (
    apply Lex.is
    · (intro u w' hk hd
       simp [Waited, Region.binds, Is] at hd
       refine looked_want (by first | rfl | simp [Region.wanted, yielded, hd]) ?_
       intro K hK
       obtain ⟨hcR, _⟩ := bcell hk
       go_wp2_with (fail)
       try simp only [hd] at hK
       refine hK _ _ ?_ rfl
       first | exact Below.refl _ _ | exact hb3)
    )
  iterate 5 (
    apply Lex.is
    · (intro u w' hk hd
       simp [Waited, Region.binds, Is] at hd
       refine looked_want (by first | rfl | simp [Region.wanted, yielded, hd]) ?_
       intro K hK
       obtain ⟨hcR, _⟩ := bcell hk
       go_wp2_with (fail)
       try simp only [hd] at hK
       refine hK _ _ ?_ rfl
       first | exact Below.refl _ _ | exact hb3)
    )
  iterate 2 (
    apply Lex.is
    · (intro u w' hk hd
       simp [Waited, Region.binds, Is] at hd
       refine looked_want (by first | rfl | simp [Region.wanted, yielded, hd]) ?_
       intro K hK
       obtain ⟨hcR, _⟩ := bcell hk
       go_wp2_with (fail)
       try simp only [hd] at hK
       refine hK _ _ ?_ rfl
       first | exact Below.refl _ _ | exact hb3)
    )
  apply Lex.nil
  intro u w' hk hd
  simp only [List.nil_append, List.cons_append] at hd
  have hlast := hd 22 _ rfl
  simp only [Is] at hlast
  clear hd
  go_wp2_with fail
  go_ret
  exact ⟨congrArg Ending.returned hlast, below_then hb01 hk⟩
theorem shfits_k (p : Peer10) (q : P7) (kind : Int) (A : Option Addr) (n c : Nat) (w : World) (hn : q.body.length = n) (hlen : q.body.length ≤ 2000) :
    Calls Try.prog 32 #[.agg (peerC p), .agg #[.int .i64 q.kind, .int .i64 q.dir, .int .i64 q.train, q32 q.a, q32 q.b, .slice A n c, q64 q.mac], .int .i64 kind] w fun e w' => e = .returned (.bool (fits10 p q kind)) ∧ Below w.heap.size w w' := by
  cases hm : may q with
  | false =>
    rw [show fits10 p q kind = false by simp [fits10, hm]]
    exact shfits_a p q kind A n c w hn hlen hm
  | true =>
    by_cases hk : q.kind = kind
    · by_cases hd : q.dir = dir10 p
      · rw [show fits10 p q kind = false by simp [fits10, hd]]
        exact shfits_c p q kind A n c w hn hlen hm hk hd
      · rw [show fits10 p q kind = (q.train == p.train) by simp [fits10, hm, hk, hd]; rfl]
        exact shfits_d p q kind A n c w hn hlen hm hk hd
    · rw [show fits10 p q kind = false by simp [fits10, hk]]
      exact shfits_b p q kind A n c w hn hlen hm hk
end Go.Proofs.Ytnngknmmokajgaa
