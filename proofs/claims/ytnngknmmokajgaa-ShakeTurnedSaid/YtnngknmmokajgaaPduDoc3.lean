/- The document's functions: sealed; whether sealed right. -/
import Derived.Test.YtnngknmmokajgaaPduDoc2
set_option linter.unusedSimpArgs false
set_option linter.unusedVariables false
namespace Go.Proofs.Ytnngknmmokajgaa
open Go.RowKit Go.Shelf

/-- A PDU, its body in bytes. -/
def IsPduB (p : P7) : Value → World → Prop := fun v w => ∃ A c, v = .agg #[.int .i64 p.kind, .int .i64 p.dir, .int .i64 p.train, q32 p.a, q32 p.b, .slice A p.body.length c, q64 p.mac] ∧ Bytes w A c p.body
theorem IsPdu.toB {base : Nat} {p : P7} {v : Value} {w : World} (h : IsPdu base p v w) : IsPduB p v w := by
  obtain ⟨bv, rfl, hb⟩ := h
  obtain ⟨A, c, rfl, hB, _⟩ := hb
  exact ⟨A, c, rfl, hB⟩
theorem IsPduB.grow {p : P7} {v : Value} {w w' : World} (h : IsPduB p v w) (hb : Below w.heap.size w w') : IsPduB p v w' := by
  obtain ⟨A, c, e, hB⟩ := h
  exact ⟨A, c, e, hB.below hb⟩
theorem same_v (p q : P7) (v1 v2 : Value) (w : World) (h1 : IsPduB p v1 w) (h2 : IsPduB q v2 w) : Calls Try.prog 12 #[v1, v2] w fun e w' => e = .returned (.bool (decide (p = q))) ∧ Below w.heap.size w w' := by
  obtain ⟨A1, c1, rfl, hB1⟩ := h1
  obtain ⟨A2, c2, rfl, hB2⟩ := h2
  exact same_k p q A1 _ c1 A2 _ c2 w rfl rfl hB1 hB2
set_option maxHeartbeats 4000000 in
theorem rseal_x (k : K4) (kind dir train : Int) (a b : BitVec 32) (body : List UInt8) (mac : BitVec 64) (A : Option Addr) (n c : Nat) (w : World) (hn : body.length = n) (hB : Bytes w A c body) (hlen : body.length ≤ 2000) :
    Calls Try.prog 35 #[.agg #[q32 k.k0, q32 k.k1, q32 k.k2, q32 k.k3], .agg #[.int .i64 kind, .int .i64 dir, .int .i64 train, q32 a, q32 b, .slice A n c, q64 mac]] w fun e w' => e = .returned (.agg #[.int .i64 kind, .int .i64 dir, .int .i64 train, q32 a, q32 b, .slice A n c, q64 (seal7 k ⟨kind, dir, train, a, b, body, mac⟩).mac]) ∧ Below w.heap.size w w' := by
  obtain ⟨q, hq⟩ : ∃ q, q = seal7 k ⟨kind, dir, train, a, b, body, mac⟩ := ⟨_, rfl⟩
  rw [← hq]
  have hmay : ∀ W, Calls Try.prog 52 #[.agg #[.int .i64 kind, .int .i64 dir, .int .i64 train, q32 a, q32 b, .slice A n c, q64 mac]] W fun e w' => e = .returned (.bool (may ⟨kind, dir, train, a, b, body, mac⟩)) ∧ Below W.heap.size W w' :=
    fun W => rmay_k ⟨kind, dir, train, a, b, body, mac⟩ A n c W hn.symm (by show body.length ≤ _; omega)
  have htext : ∀ W, Bytes W A c body → Calls Try.prog 54 #[.agg #[.int .i64 kind, .int .i64 dir, .int .i64 train, q32 a, q32 b, .slice A n c, q64 mac]] W fun e w' => ∃ A' n' c', e = .returned (.slice A' n' c') ∧ n' = (text ⟨kind, dir, train, a, b, body, mac⟩).length ∧ OwnB w' (W.heap.size + 1) A' c' (text ⟨kind, dir, train, a, b, body, mac⟩) ∧ Below W.heap.size W w' :=
    fun W h => rtext_k ⟨kind, dir, train, a, b, body, mac⟩ A n c W hn h hlen
  have htl2 := text_small ⟨kind, dir, train, a, b, body, mac⟩ hlen
  have hge : may ⟨kind, dir, train, a, b, body, mac⟩ = true → 1 ≤ kind := fun h => by
    have hM := may_iff.1 h
    unfold MayP at hM
    simp only at hM
    omega
  have hq1 : ¬ (may ⟨kind, dir, train, a, b, body, mac⟩ = true ∧ kind ≠ 1) → q = ⟨kind, dir, train, a, b, body, mac⟩ := fun h => by rw [hq]; unfold seal7; rw [if_neg h]
  have hq2 : (may ⟨kind, dir, train, a, b, body, mac⟩ = true ∧ kind ≠ 1) → q = ⟨kind, dir, train, a, b, body, Mac k (text ⟨kind, dir, train, a, b, body, mac⟩)⟩ := fun h => by rw [hq]; unfold seal7; rw [if_pos h]
  clear hq
  generalize hmb : may ⟨kind, dir, train, a, b, body, mac⟩ = mb at *
  generalize htx : text ⟨kind, dir, train, a, b, body, mac⟩ = tx at *
  clear hmb htx
  replace hlen := Lib.hid hlen
  go_enter Try.func35, Try.ntmps35
  go_wp2_with fail
  obtain ⟨w1, hw1⟩ : ∃ w1, w1 = ((w.alloc (.cells #[q32 k.k0, q32 k.k1, q32 k.k2, q32 k.k3] 24)).alloc (.cells #[.int .i64 kind, .int .i64 dir, .int .i64 train, q32 a, q32 b, .slice A n c, q64 mac] 30)).alloc (.cells #[.int .i64 0, .int .i64 0, .int .i64 0, .int .u32 0, .int .u32 0, .slice none 0 0, .int .u64 0] 30) := ⟨_, rfl⟩
  rw [← hw1]
  have S5 : SealSt w w1 k #[.int .i64 kind, .int .i64 dir, .int .i64 train, q32 a, q32 b, .slice A n c, q64 mac] := by
    rw [hw1]
    exact ⟨((Blk.new _ _ _).alloc _).alloc _, (Blk.newAt _ _ _ _ (by simp)).alloc _, Blk.newAt _ _ _ _ (by simp), (((Below.refl _ _).alloc (Nat.le_refl _) _).alloc (by simp) _).alloc (by simp; omega) _⟩
  clear hw1
  have hBb := S5.bytes hB
  (with_reducible refine (hmay _).mono ?_)
  rintro e w6 ⟨rfl, hb6⟩
  have S6 := S5.grow hb6
  have hB6 := hBb.below hb6
  have hc6 := S6.pdu.cell
  have hb06 := S6.below
  have hr6 := S6.res
  by_cases hcs : mb = true ∧ kind ≠ 1
  · obtain ⟨rfl, hk1⟩ := hcs
    have hqe := Lib.hid (hq2 ⟨rfl, hk1⟩)
    have hk1' : 1 < kind := by have := hge rfl; omega
    clear hq1 hq2 hge hk1
    go_wp2_with (
      first
        | (with_reducible refine wpList_load_blk rfl 30 (.tmp 3) rfl (w.heap.size + 1) rfl 30 #[.int .i64 kind, .int .i64 dir, .int .i64 train, q32 a, q32 b, .slice A n c, q64 mac] _ S6.pdu Try.underlying30 rfl (by kernel_rfl) ?_)
        | (with_reducible refine wpList_store_own2 rfl 30 (.tmp 4) (.tmp 19) rfl (w.heap.size + 1 + 1) #[.int .i64 kind, .int .i64 dir, .int .i64 train, q32 a, q32 b, .slice A n c, q64 mac] rfl rfl 30 _ hr6 (by kernel_rfl) rfl (by simp [Value.oneCell', q32, q64]) w.heap.size w hb06 (by omega) ?_; intro w7 hg7 hb07 hz7 hk7)
      )
    have hlt6 : w.heap.size + 1 < w6.heap.size := S6.pdu.lt
    have hkc6 := S6.key.cell
    have hlk6 : w.heap.size < w6.heap.size := S6.key.lt
    apply wp_region_lexl
    case hFl =>
      intro u
      simp only [List.map, fill, Act.put, List.setIfInBounds_toArray, List.set_cons_zero, List.set_cons_succ, Nat.reduceAdd, Nat.zero_add]
      rfl
    case hm => kernel_rfl
    case hB => kernel_rfl
    case hA => kernel_rfl
    case hap => kernel_rfl
    iterate 2 (
      apply LexL.is
      · (intro u w' hk hd
         simp [Waited, Region.binds, Is] at hd
         refine looked_want (by first | rfl | simp [Region.wanted, yielded, hd]) ?_
         intro K hK
         obtain ⟨hcR, _⟩ := bcell hk
         go_wp2_with (fail)
         try simp only [hd] at hK
         refine hK _ _ ?_ rfl
         first | exact Below.refl _ _ | exact hb3)
      )
    refine LexL.word (IsBytes tx) (fun _ _ _ h hb => h.grow hb) ?_ ?_
    · (intro u w' hk hd
       simp [Waited, Region.binds, Is] at hd
       refine looked_want (by first | rfl | simp [Region.wanted, yielded, hd]) ?_
       intro K hK
       obtain ⟨hcR, _⟩ := bcell hk
       skip
       go_wp2_with (go_at_call 54; (with_reducible refine (htext _ (hB6.below hk)).mono ?_); rintro e w3 ⟨A3, n3, c3, rfl, hn3, ho3, hb3⟩)
       try simp only [hd] at hK
       exact hK _ _ hb3 ⟨A3, c3, rfl, ho3.bytes⟩)
    refine LexL.is (c := q64 (Mac k tx)) ?_ ?_
    · (intro u w' hk hd
       simp [Waited, Region.binds, Is] at hd
       obtain ⟨hd1, At, ct, hd2, hBt⟩ := hd
       refine looked_want (by first | rfl | simp [Region.wanted, yielded]) ?_
       intro K hK
       go_wp2_with (go_at_call 53; go_loud (with_reducible refine (rmac_k k At ct tx _ hBt htl2).mono ?_); rintro e w3 ⟨rfl, hb3⟩)
       try simp only [hd1, hd2] at hK
       exact hK _ _ hb3 rfl)
    apply LexL.is
    · (intro u w' hk hd
       simp [Waited, Region.binds, Is] at hd
       refine looked_want (by first | rfl | simp [Region.wanted, yielded, hd]) ?_
       intro K hK
       obtain ⟨hcR, _⟩ := bcell hk
       go_wp2_with (fail)
       try simp only [hd] at hK
       refine hK _ _ ?_ rfl
       first | exact Below.refl _ _ | exact hb3)
    refine LexL.last ?_
    intro u w8 hk hd
    simp only [List.nil_append, List.cons_append] at hd
    have hm3 := hd 3 _ rfl
    have hp4 := hd 4 _ rfl
    simp only [Is] at hm3 hp4
    clear hd
    refine ⟨rfl, ?_⟩
    intro K hK
    have S8 := S6.grow hk
    have hc8 := S8.pdu.cell
    have hf8 := S8.pdu.frozen
    have S9 : SealSt w _ k #[.int .i64 kind, .int .i64 dir, .int .i64 train, q32 a, q32 b, .slice A n c, q64 (Mac k tx)] := S8.set 6 (q64 (Mac k tx))
    have hb09 := S9.below
    have hr9 := S9.res
    go_wp2_with (first
      | (with_reducible refine wpList_load_blk rfl 30 (.tmp 3) rfl (w.heap.size + 1) rfl 30 #[.int .i64 kind, .int .i64 dir, .int .i64 train, q32 a, q32 b, .slice A n c, q64 (Mac k tx)] _ S9.pdu Try.underlying30 rfl (by kernel_rfl) ?_)
      | (with_reducible refine wpList_store_own2 rfl 30 (.tmp 4) (.tmp 19) rfl (w.heap.size + 1 + 1) #[.int .i64 kind, .int .i64 dir, .int .i64 train, q32 a, q32 b, .slice A n c, q64 (Mac k tx)] rfl rfl 30 _ hr9 (by kernel_rfl) rfl (by simp [Value.oneCell', q32, q64]) w.heap.size w hb09 (by omega) ?_; intro w7 hg7 hb07 hz7 hk7))
    have hc7 := hg7.cell
    refine bodyPost_ret (v := .agg #[.int .i64 kind, .int .i64 dir, .int .i64 train, q32 a, q32 b, .slice A n c, (q64 (Mac k tx))]) (by simp [results, Try.results35, go_sem, hc7]) rfl ⟨by rw [hqe.out], hb07⟩
  · have hqe := Lib.hid (hq1 hcs)
    clear hq1 hq2
    rcases Bool.eq_false_or_eq_true mb with rfl | rfl
    · have hk1 : ¬ (1 < kind) := by
        intro h
        exact hcs ⟨rfl, by omega⟩
      clear hcs hge
      go_wp2_with (
        first
          | (with_reducible refine wpList_load_blk rfl 30 (.tmp 3) rfl (w.heap.size + 1) rfl 30 #[.int .i64 kind, .int .i64 dir, .int .i64 train, q32 a, q32 b, .slice A n c, q64 mac] _ S6.pdu Try.underlying30 rfl (by kernel_rfl) ?_)
          | (with_reducible refine wpList_store_own2 rfl 30 (.tmp 4) (.tmp 19) rfl (w.heap.size + 1 + 1) #[.int .i64 kind, .int .i64 dir, .int .i64 train, q32 a, q32 b, .slice A n c, q64 mac] rfl rfl 30 _ hr6 (by kernel_rfl) rfl (by simp [Value.oneCell', q32, q64]) w.heap.size w hb06 (by omega) ?_; intro w7 hg7 hb07 hz7 hk7)
        )
      have hc7 := hg7.cell
      refine bodyPost_ret (v := .agg #[.int .i64 kind, .int .i64 dir, .int .i64 train, q32 a, q32 b, .slice A n c, (q64 mac)]) (by simp [results, Try.results35, go_sem, hc7]) rfl ⟨by rw [hqe.out], hb07⟩
    · clear hcs hge
      go_wp2_with (
        first
          | (with_reducible refine wpList_load_blk rfl 30 (.tmp 3) rfl (w.heap.size + 1) rfl 30 #[.int .i64 kind, .int .i64 dir, .int .i64 train, q32 a, q32 b, .slice A n c, q64 mac] _ S6.pdu Try.underlying30 rfl (by kernel_rfl) ?_)
          | (with_reducible refine wpList_store_own2 rfl 30 (.tmp 4) (.tmp 19) rfl (w.heap.size + 1 + 1) #[.int .i64 kind, .int .i64 dir, .int .i64 train, q32 a, q32 b, .slice A n c, q64 mac] rfl rfl 30 _ hr6 (by kernel_rfl) rfl (by simp [Value.oneCell', q32, q64]) w.heap.size w hb06 (by omega) ?_; intro w7 hg7 hb07 hz7 hk7)
        )
      have hc7 := hg7.cell
      refine bodyPost_ret (v := .agg #[.int .i64 kind, .int .i64 dir, .int .i64 train, q32 a, q32 b, .slice A n c, (q64 mac)]) (by simp [results, Try.results35, go_sem, hc7]) rfl ⟨by rw [hqe.out], hb07⟩
theorem rseal_k (k : K4) (kind dir train : Int) (a b : BitVec 32) (body : List UInt8) (mac : BitVec 64) (A : Option Addr) (n c : Nat) (w : World) (hn : body.length = n) (hB : Bytes w A c body) (hlen : body.length ≤ 2000) :
    Calls Try.prog 35 #[.agg #[q32 k.k0, q32 k.k1, q32 k.k2, q32 k.k3], .agg #[.int .i64 kind, .int .i64 dir, .int .i64 train, q32 a, q32 b, .slice A n c, q64 mac]] w fun e w' => ∃ v, e = .returned v ∧ IsPduB (seal7 k ⟨kind, dir, train, a, b, body, mac⟩) v w' ∧ Below w.heap.size w w' := by
  refine (rseal_x k kind dir train a b body mac A n c w hn hB hlen).mono ?_
  rintro e w' ⟨rfl, hb⟩
  refine ⟨_, rfl, ?_, hb⟩
  have hs : (seal7 k ⟨kind, dir, train, a, b, body, mac⟩) = ⟨kind, dir, train, a, b, body, (seal7 k ⟨kind, dir, train, a, b, body, mac⟩).mac⟩ := by unfold seal7; split <;> rfl
  rw [hs]
  exact ⟨A, c, by rw [hn], hB.below hb⟩
set_option maxHeartbeats 4000000 in
theorem rright_no (k : K4) (kind dir train : Int) (a b : BitVec 32) (body : List UInt8) (mac : BitVec 64) (A : Option Addr) (n c : Nat) (w : World) (hn : body.length = n) (hB : Bytes w A c body) (hlen : body.length ≤ 2000) (hm : may ⟨kind, dir, train, a, b, body, mac⟩ = false) :
    Calls Try.prog 38 #[.agg #[q32 k.k0, q32 k.k1, q32 k.k2, q32 k.k3], .agg #[.int .i64 kind, .int .i64 dir, .int .i64 train, q32 a, q32 b, .slice A n c, q64 mac]] w fun e w' => e = .returned (.bool (right7 k ⟨kind, dir, train, a, b, body, mac⟩)) ∧ Below w.heap.size w w' := by
  have hmay : ∀ W, Calls Try.prog 52 #[.agg #[.int .i64 kind, .int .i64 dir, .int .i64 train, q32 a, q32 b, .slice A n c, q64 mac]] W fun e w' => e = .returned (.bool (may ⟨kind, dir, train, a, b, body, mac⟩)) ∧ Below W.heap.size W w' :=
    fun W => rmay_k ⟨kind, dir, train, a, b, body, mac⟩ A n c W hn.symm (by show body.length ≤ _; omega)
  rw [right_no k _ hm]
  rw [hm] at hmay
  clear hm
  go_enter Try.func38, Try.ntmps38
  go_wp2_with (go_at_call 52; (with_reducible refine (hmay _).mono ?_); rintro e w6 ⟨rfl, hb6⟩)
  have hkey0 : Blk ((w.alloc (.cells #[q32 k.k0, q32 k.k1, q32 k.k2, q32 k.k3] 24)).alloc (.cells #[.int .i64 kind, .int .i64 dir, .int .i64 train, q32 a, q32 b, .slice A n c, q64 mac] 30)) w.heap.size 24 #[q32 k.k0, q32 k.k1, q32 k.k2, q32 k.k3] := (Blk.new _ _ _).alloc _
  have hpdu0 : Blk ((w.alloc (.cells #[q32 k.k0, q32 k.k1, q32 k.k2, q32 k.k3] 24)).alloc (.cells #[.int .i64 kind, .int .i64 dir, .int .i64 train, q32 a, q32 b, .slice A n c, q64 mac] 30)) (w.heap.size + 1) 30 #[.int .i64 kind, .int .i64 dir, .int .i64 train, q32 a, q32 b, .slice A n c, q64 mac] := Blk.newAt _ _ _ _ (by simp)
  have hkey := hkey0.below hb6 hkey0.lt
  have hpdu := hpdu0.below hb6 hpdu0.lt
  have hb01 : Below w.heap.size w ((w.alloc (.cells #[q32 k.k0, q32 k.k1, q32 k.k2, q32 k.k3] 24)).alloc (.cells #[.int .i64 kind, .int .i64 dir, .int .i64 train, q32 a, q32 b, .slice A n c, q64 mac] 30)) := ((Below.refl _ _).alloc (Nat.le_refl _) _).alloc (by simp) _
  have hb06 : Below w.heap.size w w6 := hb01.trans (hb6.mono hb01.size)
  clear hb6 hkey0 hpdu0 hb01
  have hlk1 : w.heap.size < w6.heap.size := hkey.lt
  have hlp1 : w.heap.size + 1 < w6.heap.size := hpdu.lt
  have hB1 := hB.below hb06
  have hck1 := hkey.cell
  have hcp1 := hpdu.cell
  apply wp_region_lex
  case hFl =>
    intro u
    simp only [List.map, fill, Act.put, List.setIfInBounds_toArray, List.set_cons_zero, List.set_cons_succ, Nat.reduceAdd, Nat.zero_add]
    rfl
  case hm => kernel_rfl
  case hB => kernel_rfl
  case hap => kernel_rfl
  iterate 2 (
    apply Lex.is
    · (intro u w' hk hd
       simp [Waited, Region.binds, Is] at hd
       refine looked_want (by first | rfl | simp [Region.wanted, yielded, hd]) ?_
       intro K hK
       obtain ⟨hcR, _⟩ := bcell hk
       go_wp2_with (fail)
       try simp only [hd] at hK
       refine hK _ _ ?_ rfl
       first | exact Below.refl _ _ | exact hb3)
    )
  iterate 3 (
    refine Lex.is (c := undef) ?_ ?_
    · (intro u w' hk hd
       simp [Waited, Region.binds, Is] at hd
       exact looked_skip (by simp [Region.wanted, yielded, hd]) rfl)
    )
  iterate 2 (
    apply Lex.is
    · (intro u w' hk hd
       simp [Waited, Region.binds, Is] at hd
       refine looked_want (by first | rfl | simp [Region.wanted, yielded, hd]) ?_
       intro K hK
       obtain ⟨hcR, _⟩ := bcell hk
       go_wp2_with (fail)
       try simp only [hd] at hK
       refine hK _ _ ?_ rfl
       first | exact Below.refl _ _ | exact hb3)
    )
  iterate 7 (
    refine Lex.is (c := undef) ?_ ?_
    · (intro u w' hk hd
       simp [Waited, Region.binds, Is] at hd
       exact looked_skip (by simp [Region.wanted, yielded, hd]) rfl)
    )
  iterate 2 (
    apply Lex.is
    · (intro u w' hk hd
       simp [Waited, Region.binds, Is] at hd
       refine looked_want (by first | rfl | simp [Region.wanted, yielded, hd]) ?_
       intro K hK
       obtain ⟨hcR, _⟩ := bcell hk
       go_wp2_with (fail)
       try simp only [hd] at hK
       refine hK _ _ ?_ rfl
       first | exact Below.refl _ _ | exact hb3)
    )
  apply Lex.nil
  intro u w' hk hd
  simp only [List.nil_append, List.cons_append] at hd
  have hlast := hd 15 _ rfl
  simp only [Is] at hlast
  clear hd
  go_wp2_with fail
  go_ret
  exact ⟨congrArg Ending.returned hlast, hb06.trans (hk.mono hb06.size)⟩
set_option maxHeartbeats 4000000 in
theorem rright_one (k : K4) (kind dir train : Int) (a b : BitVec 32) (body : List UInt8) (mac : BitVec 64) (A : Option Addr) (n c : Nat) (w : World) (hn : body.length = n) (hB : Bytes w A c body) (hlen : body.length ≤ 2000) (hm : may ⟨kind, dir, train, a, b, body, mac⟩ = true) (hk1 : kind = 1) :
    Calls Try.prog 38 #[.agg #[q32 k.k0, q32 k.k1, q32 k.k2, q32 k.k3], .agg #[.int .i64 kind, .int .i64 dir, .int .i64 train, q32 a, q32 b, .slice A n c, q64 mac]] w fun e w' => e = .returned (.bool (right7 k ⟨kind, dir, train, a, b, body, mac⟩)) ∧ Below w.heap.size w w' := by
  have hmay : ∀ W, Calls Try.prog 52 #[.agg #[.int .i64 kind, .int .i64 dir, .int .i64 train, q32 a, q32 b, .slice A n c, q64 mac]] W fun e w' => e = .returned (.bool (may ⟨kind, dir, train, a, b, body, mac⟩)) ∧ Below W.heap.size W w' :=
    fun W => rmay_k ⟨kind, dir, train, a, b, body, mac⟩ A n c W hn.symm (by show body.length ≤ _; omega)
  rw [right_one k _ hk1]
  rw [hm] at hmay
  clear hm
  have hk1' : decide (1 < kind) = false := by simp [hk1]
  clear hk1
  go_enter Try.func38, Try.ntmps38
  go_wp2_with (go_at_call 52; (with_reducible refine (hmay _).mono ?_); rintro e w6 ⟨rfl, hb6⟩)
  have hkey0 : Blk ((w.alloc (.cells #[q32 k.k0, q32 k.k1, q32 k.k2, q32 k.k3] 24)).alloc (.cells #[.int .i64 kind, .int .i64 dir, .int .i64 train, q32 a, q32 b, .slice A n c, q64 mac] 30)) w.heap.size 24 #[q32 k.k0, q32 k.k1, q32 k.k2, q32 k.k3] := (Blk.new _ _ _).alloc _
  have hpdu0 : Blk ((w.alloc (.cells #[q32 k.k0, q32 k.k1, q32 k.k2, q32 k.k3] 24)).alloc (.cells #[.int .i64 kind, .int .i64 dir, .int .i64 train, q32 a, q32 b, .slice A n c, q64 mac] 30)) (w.heap.size + 1) 30 #[.int .i64 kind, .int .i64 dir, .int .i64 train, q32 a, q32 b, .slice A n c, q64 mac] := Blk.newAt _ _ _ _ (by simp)
  have hkey := hkey0.below hb6 hkey0.lt
  have hpdu := hpdu0.below hb6 hpdu0.lt
  have hb01 : Below w.heap.size w ((w.alloc (.cells #[q32 k.k0, q32 k.k1, q32 k.k2, q32 k.k3] 24)).alloc (.cells #[.int .i64 kind, .int .i64 dir, .int .i64 train, q32 a, q32 b, .slice A n c, q64 mac] 30)) := ((Below.refl _ _).alloc (Nat.le_refl _) _).alloc (by simp) _
  have hb06 : Below w.heap.size w w6 := hb01.trans (hb6.mono hb01.size)
  clear hb6 hkey0 hpdu0 hb01
  have hlk1 : w.heap.size < w6.heap.size := hkey.lt
  have hlp1 : w.heap.size + 1 < w6.heap.size := hpdu.lt
  have hB1 := hB.below hb06
  have hck1 := hkey.cell
  have hcp1 := hpdu.cell
  apply wp_region_lex
  case hFl =>
    intro u
    simp only [List.map, fill, Act.put, List.setIfInBounds_toArray, List.set_cons_zero, List.set_cons_succ, Nat.reduceAdd, Nat.zero_add]
    rfl
  case hm => kernel_rfl
  case hB => kernel_rfl
  case hap => kernel_rfl
  iterate 7 (
    apply Lex.is
    · (intro u w' hk hd
       simp [Waited, Region.binds, Is] at hd
       refine looked_want (by first | rfl | simp [Region.wanted, yielded, hd]) ?_
       intro K hK
       obtain ⟨hcR, _⟩ := bcell hk
       go_wp2_with (fail)
       try simp only [hd] at hK
       refine hK _ _ ?_ rfl
       first | exact Below.refl _ _ | exact hb3)
    )
  iterate 7 (
    refine Lex.is (c := undef) ?_ ?_
    · (intro u w' hk hd
       simp [Waited, Region.binds, Is] at hd
       exact looked_skip (by simp [Region.wanted, yielded, hd]) rfl)
    )
  iterate 2 (
    apply Lex.is
    · (intro u w' hk hd
       simp [Waited, Region.binds, Is] at hd
       refine looked_want (by first | rfl | simp [Region.wanted, yielded, hd]) ?_
       intro K hK
       obtain ⟨hcR, _⟩ := bcell hk
       go_wp2_with (fail)
       try simp only [hd] at hK
       refine hK _ _ ?_ rfl
       first | exact Below.refl _ _ | exact hb3)
    )
  apply Lex.nil
  intro u w' hk hd
  simp only [List.nil_append, List.cons_append] at hd
  have hlast := hd 15 _ rfl
  simp only [Is] at hlast
  clear hd
  go_wp2_with fail
  go_ret
  exact ⟨congrArg Ending.returned hlast, hb06.trans (hk.mono hb06.size)⟩
set_option maxHeartbeats 4000000 in
theorem rright_yes (k : K4) (kind dir train : Int) (a b : BitVec 32) (body : List UInt8) (mac : BitVec 64) (A : Option Addr) (n c : Nat) (w : World) (hn : body.length = n) (hB : Bytes w A c body) (hlen : body.length ≤ 2000) (hm : may ⟨kind, dir, train, a, b, body, mac⟩ = true) (hk1 : kind ≠ 1) :
    Calls Try.prog 38 #[.agg #[q32 k.k0, q32 k.k1, q32 k.k2, q32 k.k3], .agg #[.int .i64 kind, .int .i64 dir, .int .i64 train, q32 a, q32 b, .slice A n c, q64 mac]] w fun e w' => e = .returned (.bool (right7 k ⟨kind, dir, train, a, b, body, mac⟩)) ∧ Below w.heap.size w w' := by
  have hmay : ∀ W, Calls Try.prog 52 #[.agg #[.int .i64 kind, .int .i64 dir, .int .i64 train, q32 a, q32 b, .slice A n c, q64 mac]] W fun e w' => e = .returned (.bool (may ⟨kind, dir, train, a, b, body, mac⟩)) ∧ Below W.heap.size W w' :=
    fun W => rmay_k ⟨kind, dir, train, a, b, body, mac⟩ A n c W hn.symm (by show body.length ≤ _; omega)
  rw [right_yes k _ hm hk1]
  rw [hm] at hmay
  have hk1' : decide (1 < kind) = true := by
    have hM := may_iff.1 hm
    unfold MayP at hM
    simp only at hM
    simp
    omega
  have htext : ∀ W, Bytes W A c body → Calls Try.prog 54 #[.agg #[.int .i64 kind, .int .i64 dir, .int .i64 train, q32 a, q32 b, .slice A n c, q64 mac]] W fun e w' => ∃ A' n' c', e = .returned (.slice A' n' c') ∧ n' = (text ⟨kind, dir, train, a, b, body, mac⟩).length ∧ OwnB w' (W.heap.size + 1) A' c' (text ⟨kind, dir, train, a, b, body, mac⟩) ∧ Below W.heap.size W w' :=
    fun W h => rtext_k ⟨kind, dir, train, a, b, body, mac⟩ A n c W hn h hlen
  have htl2 := text_small ⟨kind, dir, train, a, b, body, mac⟩ hlen
  clear hm hk1
  show Calls _ _ _ _ fun e w' => e = .returned (.bool (Mac k (text ⟨kind, dir, train, a, b, body, mac⟩) == mac)) ∧ _
  rw [show (Mac k (text ⟨kind, dir, train, a, b, body, mac⟩) == mac) = (mac == Mac k (text ⟨kind, dir, train, a, b, body, mac⟩)) from BEq.comm]
  generalize text ⟨kind, dir, train, a, b, body, mac⟩ = tx at *
  go_enter Try.func38, Try.ntmps38
  go_wp2_with (go_at_call 52; (with_reducible refine (hmay _).mono ?_); rintro e w6 ⟨rfl, hb6⟩)
  have hkey0 : Blk ((w.alloc (.cells #[q32 k.k0, q32 k.k1, q32 k.k2, q32 k.k3] 24)).alloc (.cells #[.int .i64 kind, .int .i64 dir, .int .i64 train, q32 a, q32 b, .slice A n c, q64 mac] 30)) w.heap.size 24 #[q32 k.k0, q32 k.k1, q32 k.k2, q32 k.k3] := (Blk.new _ _ _).alloc _
  have hpdu0 : Blk ((w.alloc (.cells #[q32 k.k0, q32 k.k1, q32 k.k2, q32 k.k3] 24)).alloc (.cells #[.int .i64 kind, .int .i64 dir, .int .i64 train, q32 a, q32 b, .slice A n c, q64 mac] 30)) (w.heap.size + 1) 30 #[.int .i64 kind, .int .i64 dir, .int .i64 train, q32 a, q32 b, .slice A n c, q64 mac] := Blk.newAt _ _ _ _ (by simp)
  have hkey := hkey0.below hb6 hkey0.lt
  have hpdu := hpdu0.below hb6 hpdu0.lt
  have hb01 : Below w.heap.size w ((w.alloc (.cells #[q32 k.k0, q32 k.k1, q32 k.k2, q32 k.k3] 24)).alloc (.cells #[.int .i64 kind, .int .i64 dir, .int .i64 train, q32 a, q32 b, .slice A n c, q64 mac] 30)) := ((Below.refl _ _).alloc (Nat.le_refl _) _).alloc (by simp) _
  have hb06 : Below w.heap.size w w6 := hb01.trans (hb6.mono hb01.size)
  clear hb6 hkey0 hpdu0 hb01
  have hlk1 : w.heap.size < w6.heap.size := hkey.lt
  have hlp1 : w.heap.size + 1 < w6.heap.size := hpdu.lt
  have hB1 := hB.below hb06
  have hck1 := hkey.cell
  have hcp1 := hpdu.cell
  apply wp_region_lex
  case hFl =>
    intro u
    simp only [List.map, fill, Act.put, List.setIfInBounds_toArray, List.set_cons_zero, List.set_cons_succ, Nat.reduceAdd, Nat.zero_add]
    rfl
  case hm => kernel_rfl
  case hB => kernel_rfl
  case hap => kernel_rfl
  iterate 11 (
    apply Lex.is
    · (intro u w' hk hd
       simp [Waited, Region.binds, Is] at hd
       refine looked_want (by first | rfl | simp [Region.wanted, yielded, hd]) ?_
       intro K hK
       obtain ⟨hcR, _⟩ := bcell hk
       go_wp2_with (fail)
       try simp only [hd] at hK
       refine hK _ _ ?_ rfl
       first | exact Below.refl _ _ | exact hb3)
    )
  refine Lex.word (IsBytes tx) (fun _ _ _ h hb => h.grow hb) ?_ ?_
  · (intro u w' hk hd
     simp [Waited, Region.binds, Is] at hd
     refine looked_want (by first | rfl | simp [Region.wanted, yielded, hd]) ?_
     intro K hK
     obtain ⟨hcR, _⟩ := bcell hk
     skip
     go_wp2_with (go_at_call 54; (with_reducible refine (htext _ (hB1.below hk)).mono ?_); rintro e w3 ⟨A3, n3, c3, rfl, hn3, ho3, hb3⟩)
     try simp only [hd] at hK
     exact hK _ _ hb3 ⟨A3, c3, rfl, ho3.bytes⟩)
  refine Lex.is (c := q64 (Mac k tx)) ?_ ?_
  · (intro u w' hk hd
     simp [Waited, Region.binds, Is] at hd
     obtain ⟨hd1, ⟨At, ct, hd2, hBt⟩, hd3⟩ := hd
     refine looked_want (by first | rfl | simp [Region.wanted, yielded, hd3]) ?_
     intro K hK
     go_wp2_with (go_at_call 53; go_loud (with_reducible refine (rmac_k k At ct tx _ hBt htl2).mono ?_); rintro e w3 ⟨rfl, hb3⟩)
     try simp only [hd1, hd2, hd3] at hK
     exact hK _ _ hb3 rfl)
  iterate 3 (
    apply Lex.is
    · (intro u w' hk hd
       simp [Waited, Region.binds, Is] at hd
       refine looked_want (by first | rfl | simp [Region.wanted, yielded, hd]) ?_
       intro K hK
       obtain ⟨hcR, _⟩ := bcell hk
       go_wp2_with (fail)
       try simp only [hd] at hK
       refine hK _ _ ?_ rfl
       first | exact Below.refl _ _ | exact hb3)
    )
  apply Lex.nil
  intro u w' hk hd
  simp only [List.nil_append, List.cons_append] at hd
  have hlast := hd 15 _ rfl
  simp only [Is] at hlast
  clear hd
  go_wp2_with fail
  go_ret
  exact ⟨congrArg Ending.returned hlast, hb06.trans (hk.mono hb06.size)⟩
theorem prright_k (k : K4) (p : P7) (A : Option Addr) (n c : Nat) (w : World) (hn : n = p.body.length) (hB : Bytes w A c p.body) (hlen : p.body.length ≤ 2000) :
    Calls Try.prog 38 #[.agg #[q32 k.k0, q32 k.k1, q32 k.k2, q32 k.k3], .agg #[.int .i64 p.kind, .int .i64 p.dir, .int .i64 p.train, q32 p.a, q32 p.b, .slice A n c, q64 p.mac]] w fun e w' => e = .returned (.bool (right7 k p)) ∧ Below w.heap.size w w' := by
  obtain ⟨kind, dir, train, a, b, body, mac⟩ := p
  cases hm : may ⟨kind, dir, train, a, b, body, mac⟩ with
  | false => exact rright_no k kind dir train a b body mac A n c w hn.symm hB hlen hm
  | true =>
    by_cases hk : kind = 1
    · exact rright_one k kind dir train a b body mac A n c w hn.symm hB hlen hm hk
    · exact rright_yes k kind dir train a b body mac A n c w hn.symm hB hlen hm hk
end Go.Proofs.Ytnngknmmokajgaa
