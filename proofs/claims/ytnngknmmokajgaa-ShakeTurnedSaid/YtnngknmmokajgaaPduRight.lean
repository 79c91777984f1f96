/- Whether a PDU is sealed right. -/
import Derived.Test.YtnngknmmokajgaaPduSeal
set_option linter.unusedSimpArgs false
set_option linter.unusedVariables false
namespace Go.Proofs.Ytnngknmmokajgaa
open Go.RowKit Go.Shelf

theorem text_small (p : P7) (h : p.body.length ≤ 2000) : (text p).length ≤ 65536 := by
  have htl := textB_len p
  unfold text
  split
  · omega
  · simp
theorem right_no (k : K4) (p : P7) (h : may p = false) : right7 k p = false := by simp [right7, h]
theorem right_one (k : K4) (p : P7) (h : p.kind = 1) : right7 k p = false := by simp [right7, h]
theorem right_yes (k : K4) (p : P7) (h : may p = true) (h1 : p.kind ≠ 1) : right7 k p = (Mac k (text p) == p.mac) := by simp [right7, h, h1]
set_option maxHeartbeats 4000000 in
theorem pright_no (k : K4) (kind dir train : Int) (a b : BitVec 32) (body : List UInt8) (mac : BitVec 64) (A : Option Addr) (n c : Nat) (w : World) (hn : body.length = n) (hB : Bytes w A c body) (hlen : body.length ≤ 2000) (hm : may ⟨kind, dir, train, a, b, body, mac⟩ = false) :
    Calls Try.prog 36 #[.agg #[q32 k.k0, q32 k.k1, q32 k.k2, q32 k.k3], .agg #[.int .i64 kind, .int .i64 dir, .int .i64 train, q32 a, q32 b, .slice A n c, q64 mac]] w fun e w' => e = .returned (.bool (right7 k ⟨kind, dir, train, a, b, body, mac⟩)) ∧ Below w.heap.size w w' := by
  have hmay : ∀ W, Calls Try.prog 42 #[.agg #[.int .i64 kind, .int .i64 dir, .int .i64 train, q32 a, q32 b, .slice A n c, q64 mac]] W fun e w' => e = .returned (.bool (may ⟨kind, dir, train, a, b, body, mac⟩)) ∧ Below W.heap.size W w' :=
    fun W => may_k ⟨kind, dir, train, a, b, body, mac⟩ A n c W hn.symm (by show body.length ≤ _; omega)
  rw [right_no k _ hm]
  rw [hm] at hmay
  clear hm
  go_enter Try.func36, Try.ntmps36
  go_wp2_with fail
  obtain ⟨w1, hw1⟩ : ∃ w1, w1 = (w.alloc (.cells #[q32 k.k0, q32 k.k1, q32 k.k2, q32 k.k3] 24)).alloc (.cells #[.int .i64 kind, .int .i64 dir, .int .i64 train, q32 a, q32 b, .slice A n c, q64 mac] 30) := ⟨_, rfl⟩
  rw [← hw1]
  have hkey : Blk w1 w.heap.size 24 #[q32 k.k0, q32 k.k1, q32 k.k2, q32 k.k3] := by rw [hw1]; exact (Blk.new _ _ _).alloc _
  have hpdu : Blk w1 (w.heap.size + 1) 30 #[.int .i64 kind, .int .i64 dir, .int .i64 train, q32 a, q32 b, .slice A n c, q64 mac] := by rw [hw1]; exact Blk.newAt _ _ _ _ (by simp)
  have hb01 : Below w.heap.size w w1 := by rw [hw1]; exact ((Below.refl _ _).alloc (Nat.le_refl _) _).alloc (by simp) _
  have hlk1 : w.heap.size < w1.heap.size := hkey.lt
  have hlp1 : w.heap.size + 1 < w1.heap.size := hpdu.lt
  have hB1 := hB.below hb01
  have hck1 := hkey.cell
  have hcp1 := hpdu.cell
  clear hw1
  apply wp_region_lex
  case hFl =>
    intro u
    simp only [List.map, fill, Act.put, List.setIfInBounds_toArray, List.set_cons_zero, List.set_cons_succ, Nat.reduceAdd, Nat.zero_add]
    rfl
  case hm => kernel_rfl
  case hB => kernel_rfl
  case hap => kernel_rfl
  apply Lex.is
  · (intro u w' hk hd
     simp [Waited, Region.binds, Is] at hd
     refine looked_want (by first | rfl | simp [Region.wanted, yielded, hd]) ?_
     intro K hK
     obtain ⟨hcR, _⟩ := bcell hk
     go_wp2_with (fail)
     try simp only [hd] at hK
     refine hK _ _ ?_ rfl
     first | exact Below.refl _ _ | exact hb3)
  apply Lex.is
  · (intro u w' hk hd
     simp [Waited, Region.binds, Is] at hd
     refine looked_want (by first | rfl | simp [Region.wanted, yielded, hd]) ?_
     intro K hK
     obtain ⟨hcR, _⟩ := bcell hk
     go_wp2_with ((go_at_call 42; (with_reducible refine (hmay _).mono ?_); rintro e w3 ⟨rfl, hb3⟩))
     try simp only [hd] at hK
     refine hK _ _ ?_ rfl
     first | exact Below.refl _ _ | exact hb3)
  apply Lex.is
  · (intro u w' hk hd
     simp [Waited, Region.binds, Is] at hd
     refine looked_want (by first | rfl | simp [Region.wanted, yielded, hd]) ?_
     intro K hK
     obtain ⟨hcR, _⟩ := bcell hk
     go_wp2_with (fail)
     try simp only [hd] at hK
     refine hK _ _ ?_ rfl
     first | exact Below.refl _ _ | exact hb3)
  iterate 3 (
    refine Lex.is (c := undef) ?_ ?_
    · (intro u w' hk hd
       simp [Waited, Region.binds, Is] at hd
       exact looked_skip (by simp [Region.wanted, yielded, hd]) rfl)
    )
  iterate 2 (
    apply Lex.is
    · (intro u w' hk hd
       simp [Waited, Region.binds, Is] at hd
       refine looked_want (by first | rfl | simp [Region.wanted, yielded, hd]) ?_
       intro K hK
       obtain ⟨hcR, _⟩ := bcell hk
       go_wp2_with (fail)
       try simp only [hd] at hK
       refine hK _ _ ?_ rfl
       first | exact Below.refl _ _ | exact hb3)
    )
  iterate 7 (
    refine Lex.is (c := undef) ?_ ?_
    · (intro u w' hk hd
       simp [Waited, Region.binds, Is] at hd
       exact looked_skip (by simp [Region.wanted, yielded, hd]) rfl)
    )
  iterate 2 (
    apply Lex.is
    · (intro u w' hk hd
       simp [Waited, Region.binds, Is] at hd
       refine looked_want (by first | rfl | simp [Region.wanted, yielded, hd]) ?_
       intro K hK
       obtain ⟨hcR, _⟩ := bcell hk
       go_wp2_with (fail)
       try simp only [hd] at hK
       refine hK _ _ ?_ rfl
       first | exact Below.refl _ _ | exact hb3)
    )
  apply Lex.nil
  intro u w' hk hd
  simp only [List.nil_append, List.cons_append] at hd
  have hlast := hd 16 _ rfl
  simp only [Is] at hlast
  clear hd
  go_wp2_with fail
  go_ret
  exact ⟨congrArg Ending.returned hlast, below_then hb01 hk⟩
set_option maxHeartbeats 4000000 in
theorem pright_one (k : K4) (kind dir train : Int) (a b : BitVec 32) (body : List UInt8) (mac : BitVec 64) (A : Option Addr) (n c : Nat) (w : World) (hn : body.length = n) (hB : Bytes w A c body) (hlen : body.length ≤ 2000) (hm : may ⟨kind, dir, train, a, b, body, mac⟩ = true) (hk1 : kind = 1) :
    Calls Try.prog 36 #[.agg #[q32 k.k0, q32 k.k1, q32 k.k2, q32 k.k3], .agg #[.int .i64 kind, .int .i64 dir, .int .i64 train, q32 a, q32 b, .slice A n c, q64 mac]] w fun e w' => e = .returned (.bool (right7 k ⟨kind, dir, train, a, b, body, mac⟩)) ∧ Below w.heap.size w w' := by
  have hmay : ∀ W, Calls Try.prog 42 #[.agg #[.int .i64 kind, .int .i64 dir, .int .i64 train, q32 a, q32 b, .slice A n c, q64 mac]] W fun e w' => e = .returned (.bool (may ⟨kind, dir, train, a, b, body, mac⟩)) ∧ Below W.heap.size W w' :=
    fun W => may_k ⟨kind, dir, train, a, b, body, mac⟩ A n c W hn.symm (by show body.length ≤ _; omega)
  rw [right_one k _ hk1]
  rw [hm] at hmay
  clear hm
  have hk1' : (kind != 1) = false := by simp [hk1]
  clear hk1
  go_enter Try.func36, Try.ntmps36
  go_wp2_with fail
  obtain ⟨w1, hw1⟩ : ∃ w1, w1 = (w.alloc (.cells #[q32 k.k0, q32 k.k1, q32 k.k2, q32 k.k3] 24)).alloc (.cells #[.int .i64 kind, .int .i64 dir, .int .i64 train, q32 a, q32 b, .slice A n c, q64 mac] 30) := ⟨_, rfl⟩
  rw [← hw1]
  have hkey : Blk w1 w.heap.size 24 #[q32 k.k0, q32 k.k1, q32 k.k2, q32 k.k3] := by rw [hw1]; exact (Blk.new _ _ _).alloc _
  have hpdu : Blk w1 (w.heap.size + 1) 30 #[.int .i64 kind, .int .i64 dir, .int .i64 train, q32 a, q32 b, .slice A n c, q64 mac] := by rw [hw1]; exact Blk.newAt _ _ _ _ (by simp)
  have hb01 : Below w.heap.size w w1 := by rw [hw1]; exact ((Below.refl _ _).alloc (Nat.le_refl _) _).alloc (by simp) _
  have hlk1 : w.heap.size < w1.heap.size := hkey.lt
  have hlp1 : w.heap.size + 1 < w1.heap.size := hpdu.lt
  have hB1 := hB.below hb01
  have hck1 := hkey.cell
  have hcp1 := hpdu.cell
  clear hw1
  apply wp_region_lex
  case hFl =>
    intro u
    simp only [List.map, fill, Act.put, List.setIfInBounds_toArray, List.set_cons_zero, List.set_cons_succ, Nat.reduceAdd, Nat.zero_add]
    rfl
  case hm => kernel_rfl
  case hB => kernel_rfl
  case hap => kernel_rfl
  apply Lex.is
  · (intro u w' hk hd
     simp [Waited, Region.binds, Is] at hd
     refine looked_want (by first | rfl | simp [Region.wanted, yielded, hd]) ?_
     intro K hK
     obtain ⟨hcR, _⟩ := bcell hk
     go_wp2_with (fail)
     try simp only [hd] at hK
     refine hK _ _ ?_ rfl
     first | exact Below.refl _ _ | exact hb3)
  apply Lex.is
  · (intro u w' hk hd
     simp [Waited, Region.binds, Is] at hd
     refine looked_want (by first | rfl | simp [Region.wanted, yielded, hd]) ?_
     intro K hK
     obtain ⟨hcR, _⟩ := bcell hk
     go_wp2_with ((go_at_call 42; (with_reducible refine (hmay _).mono ?_); rintro e w3 ⟨rfl, hb3⟩))
     try simp only [hd] at hK
     refine hK _ _ ?_ rfl
     first | exact Below.refl _ _ | exact hb3)
  apply Lex.is
  · (intro u w' hk hd
     simp [Waited, Region.binds, Is] at hd
     refine looked_want (by first | rfl | simp [Region.wanted, yielded, hd]) ?_
     intro K hK
     obtain ⟨hcR, _⟩ := bcell hk
     go_wp2_with (fail)
     try simp only [hd] at hK
     refine hK _ _ ?_ rfl
     first | exact Below.refl _ _ | exact hb3)
  iterate 5 (
    apply Lex.is
    · (intro u w' hk hd
       simp [Waited, Region.binds, Is] at hd
       refine looked_want (by first | rfl | simp [Region.wanted, yielded, hd]) ?_
       intro K hK
       obtain ⟨hcR, _⟩ := bcell hk
       go_wp2_with (fail)
       try simp only [hd] at hK
       refine hK _ _ ?_ rfl
       first | exact Below.refl _ _ | exact hb3)
    )
  iterate 7 (
    refine Lex.is (c := undef) ?_ ?_
    · (intro u w' hk hd
       simp [Waited, Region.binds, Is] at hd
       exact looked_skip (by simp [Region.wanted, yielded, hd]) rfl)
    )
  iterate 2 (
    apply Lex.is
    · (intro u w' hk hd
       simp [Waited, Region.binds, Is] at hd
       refine looked_want (by first | rfl | simp [Region.wanted, yielded, hd]) ?_
       intro K hK
       obtain ⟨hcR, _⟩ := bcell hk
       go_wp2_with (fail)
       try simp only [hd] at hK
       refine hK _ _ ?_ rfl
       first | exact Below.refl _ _ | exact hb3)
    )
  apply Lex.nil
  intro u w' hk hd
  simp only [List.nil_append, List.cons_append] at hd
  have hlast := hd 16 _ rfl
  simp only [Is] at hlast
  clear hd
  go_wp2_with fail
  go_ret
  exact ⟨congrArg Ending.returned hlast, below_then hb01 hk⟩
set_option maxHeartbeats 4000000 in
theorem pright_yes (k : K4) (kind dir train : Int) (a b : BitVec 32) (body : List UInt8) (mac : BitVec 64) (A : Option Addr) (n c : Nat) (w : World) (hn : body.length = n) (hB : Bytes w A c body) (hlen : body.length ≤ 2000) (hm : may ⟨kind, dir, train, a, b, body, mac⟩ = true) (hk1 : kind ≠ 1) :
    Calls Try.prog 36 #[.agg #[q32 k.k0, q32 k.k1, q32 k.k2, q32 k.k3], .agg #[.int .i64 kind, .int .i64 dir, .int .i64 train, q32 a, q32 b, .slice A n c, q64 mac]] w fun e w' => e = .returned (.bool (right7 k ⟨kind, dir, train, a, b, body, mac⟩)) ∧ Below w.heap.size w w' := by
  have hmay : ∀ W, Calls Try.prog 42 #[.agg #[.int .i64 kind, .int .i64 dir, .int .i64 train, q32 a, q32 b, .slice A n c, q64 mac]] W fun e w' => e = .returned (.bool (may ⟨kind, dir, train, a, b, body, mac⟩)) ∧ Below W.heap.size W w' :=
    fun W => may_k ⟨kind, dir, train, a, b, body, mac⟩ A n c W hn.symm (by show body.length ≤ _; omega)
  rw [right_yes k _ hm hk1]
  rw [hm] at hmay
  have hk1' : (kind != 1) = true := by simpa using hk1
  have htext : ∀ W, Bytes W A c body → Calls Try.prog 51 #[.agg #[.int .i64 kind, .int .i64 dir, .int .i64 train, q32 a, q32 b, .slice A n c, q64 mac]] W fun e w' => ∃ v, e = .returned v ∧ NewBytes W.heap.size (text ⟨kind, dir, train, a, b, body, mac⟩) v w' ∧ Below W.heap.size W w' :=
    fun W h => text_k ⟨kind, dir, train, a, b, body, mac⟩ A n c W hn.symm h hlen
  have htl2 := text_small ⟨kind, dir, train, a, b, body, mac⟩ hlen
  clear hm hk1
  show Calls _ _ _ _ fun e w' => e = .returned (.bool (Mac k (text ⟨kind, dir, train, a, b, body, mac⟩) == mac)) ∧ _
  generalize text ⟨kind, dir, train, a, b, body, mac⟩ = tx at *
  go_enter Try.func36, Try.ntmps36
  go_wp2_with fail
  obtain ⟨w1, hw1⟩ : ∃ w1, w1 = (w.alloc (.cells #[q32 k.k0, q32 k.k1, q32 k.k2, q32 k.k3] 24)).alloc (.cells #[.int .i64 kind, .int .i64 dir, .int .i64 train, q32 a, q32 b, .slice A n c, q64 mac] 30) := ⟨_, rfl⟩
  rw [← hw1]
  have hkey : Blk w1 w.heap.size 24 #[q32 k.k0, q32 k.k1, q32 k.k2, q32 k.k3] := by rw [hw1]; exact (Blk.new _ _ _).alloc _
  have hpdu : Blk w1 (w.heap.size + 1) 30 #[.int .i64 kind, .int .i64 dir, .int .i64 train, q32 a, q32 b, .slice A n c, q64 mac] := by rw [hw1]; exact Blk.newAt _ _ _ _ (by simp)
  have hb01 : Below w.heap.size w w1 := by rw [hw1]; exact ((Below.refl _ _).alloc (Nat.le_refl _) _).alloc (by simp) _
  have hlk1 : w.heap.size < w1.heap.size := hkey.lt
  have hlp1 : w.heap.size + 1 < w1.heap.size := hpdu.lt
  have hB1 := hB.below hb01
  have hck1 := hkey.cell
  have hcp1 := hpdu.cell
  clear hw1
  apply wp_region_lex
  case hFl =>
    intro u
    simp only [List.map, fill, Act.put, List.setIfInBounds_toArray, List.set_cons_zero, List.set_cons_succ, Nat.reduceAdd, Nat.zero_add]
    rfl
  case hm => kernel_rfl
  case hB => kernel_rfl
  case hap => kernel_rfl
  apply Lex.is
  · (intro u w' hk hd
     simp [Waited, Region.binds, Is] at hd
     refine looked_want (by first | rfl | simp [Region.wanted, yielded, hd]) ?_
     intro K hK
     obtain ⟨hcR, _⟩ := bcell hk
     go_wp2_with (fail)
     try simp only [hd] at hK
     refine hK _ _ ?_ rfl
     first | exact Below.refl _ _ | exact hb3)
  apply Lex.is
  · (intro u w' hk hd
     simp [Waited, Region.binds, Is] at hd
     refine looked_want (by first | rfl | simp [Region.wanted, yielded, hd]) ?_
     intro K hK
     obtain ⟨hcR, _⟩ := bcell hk
     go_wp2_with ((go_at_call 42; (with_reducible refine (hmay _).mono ?_); rintro e w3 ⟨rfl, hb3⟩))
     try simp only [hd] at hK
     refine hK _ _ ?_ rfl
     first | exact Below.refl _ _ | exact hb3)
  apply Lex.is
  · (intro u w' hk hd
     simp [Waited, Region.binds, Is] at hd
     refine looked_want (by first | rfl | simp [Region.wanted, yielded, hd]) ?_
     intro K hK
     obtain ⟨hcR, _⟩ := bcell hk
     go_wp2_with (fail)
     try simp only [hd] at hK
     refine hK _ _ ?_ rfl
     first | exact Below.refl _ _ | exact hb3)
  iterate 7 (
    apply Lex.is
    · (intro u w' hk hd
       simp [Waited, Region.binds, Is] at hd
       refine looked_want (by first | rfl | simp [Region.wanted, yielded, hd]) ?_
       intro K hK
       obtain ⟨hcR, _⟩ := bcell hk
       go_wp2_with (fail)
       try simp only [hd] at hK
       refine hK _ _ ?_ rfl
       first | exact Below.refl _ _ | exact hb3)
    )
  refine Lex.word (IsBytes tx) (fun _ _ _ h hb => h.grow hb) ?_ ?_
  · (intro u w' hk hd
     simp [Waited, Region.binds, Is] at hd
     refine looked_want (by first | rfl | simp [Region.wanted, yielded, hd]) ?_
     intro K hK
     obtain ⟨hcR, _⟩ := bcell hk
     skip
     go_wp2_with (go_at_call 51; (with_reducible refine (htext _ (hB1.below hk)).mono ?_); rintro e w3 ⟨v3, rfl, hv3, hb3⟩)
     try simp only [hd] at hK
     exact hK _ _ hb3 hv3.is)
  refine Lex.is (c := q64 (Mac k tx)) ?_ ?_
  · (intro u w' hk hd
     simp [Waited, Region.binds, Is] at hd
     obtain ⟨hd1, ⟨At, ct, hd2, hBt⟩, hd3⟩ := hd
     refine looked_want (by first | rfl | simp [Region.wanted, yielded, hd3]) ?_
     intro K hK
     go_wp2_with (go_at_call 50; go_loud (with_reducible refine (mac_k k At ct tx _ hBt htl2).mono ?_); rintro e w3 ⟨rfl, hb3⟩)
     try simp only [hd1, hd2, hd3] at hK
     exact hK _ _ hb3 rfl)
  iterate 5 (
    apply Lex.is
    · (intro u w' hk hd
       simp [Waited, Region.binds, Is] at hd
       refine looked_want (by first | rfl | simp [Region.wanted, yielded, hd]) ?_
       intro K hK
       obtain ⟨hcR, _⟩ := bcell hk
       go_wp2_with (fail)
       try simp only [hd] at hK
       refine hK _ _ ?_ rfl
       first | exact Below.refl _ _ | exact hb3)
    )
  apply Lex.nil
  intro u w' hk hd
  simp only [List.nil_append, List.cons_append] at hd
  have hlast := hd 16 _ rfl
  simp only [Is] at hlast
  clear hd
  go_wp2_with fail
  go_ret
  exact ⟨congrArg Ending.returned hlast, below_then hb01 hk⟩
theorem pright_k (k : K4) (p : P7) (A : Option Addr) (n c : Nat) (w : World) (hn : n = p.body.length) (hB : Bytes w A c p.body) (hlen : p.body.length ≤ 2000) :
    Calls Try.prog 36 #[.agg #[q32 k.k0, q32 k.k1, q32 k.k2, q32 k.k3], .agg #[.int .i64 p.kind, .int .i64 p.dir, .int .i64 p.train, q32 p.a, q32 p.b, .slice A n c, q64 p.mac]] w fun e w' => e = .returned (.bool (right7 k p)) ∧ Below w.heap.size w w' := by
  obtain ⟨kind, dir, train, a, b, body, mac⟩ := p
  cases hm : may ⟨kind, dir, train, a, b, body, mac⟩ with
  | false => exact pright_no k kind dir train a b body mac A n c w hn.symm hB hlen hm
  | true =>
    by_cases hk : kind = 1
    · exact pright_one k kind dir train a b body mac A n c w hn.symm hB hlen hm hk
    · exact pright_yes k kind dir train a b body mac A n c w hn.symm hB hlen hm hk
end Go.Proofs.Ytnngknmmokajgaa
