/- A PDU is sealed; whether it is sealed right. -/
import Derived.Test.YtnngknmmokajgaaPduDec
import Derived.Test.YtnngknmmokajgaaMac
set_option linter.unusedSimpArgs false
set_option linter.unusedVariables false
namespace Go.Proofs.Ytnngknmmokajgaa
open Go.RowKit Go.Shelf

/-- Sealed. -/
def seal7 (k : K4) (p : P7) : P7 := if may p = true ∧ p.kind ≠ 1 then ⟨p.kind, p.dir, p.train, p.a, p.b, p.body, Mac k (text p)⟩ else p
/-- Where Seal stands: the key's block, the PDU's own, the result's, and what was there before. -/
structure SealSt (w W : World) (k : K4) (cells : Array Value) : Prop where
  key : Blk W w.heap.size 24 #[q32 k.k0, q32 k.k1, q32 k.k2, q32 k.k3]
  pdu : Blk W (w.heap.size + 1) 30 cells
  res : Blk W (w.heap.size + 1 + 1) 30 #[.int .i64 0, .int .i64 0, .int .i64 0, .int .u32 0, .int .u32 0, .slice none 0 0, .int .u64 0]
  below : Below w.heap.size w W
theorem SealSt.set {w W : World} {k : K4} {cells : Array Value} (h : SealSt w W k cells) (i : Nat) (u : Value) : SealSt w (W.setCell ⟨w.heap.size + 1, i, none⟩ u) k (cells.setIfInBounds i u) :=
  ⟨h.key.far (p := ⟨w.heap.size + 1, i, none⟩) (by show _ ≠ w.heap.size + 1; omega) u, h.pdu.set_ i u, h.res.far (p := ⟨w.heap.size + 1, i, none⟩) (by show _ ≠ w.heap.size + 1; omega) u, h.below.setCell (p := ⟨w.heap.size + 1, i, none⟩) (by show _ ≤ w.heap.size + 1; omega) u⟩
theorem SealSt.grow {w W W' : World} {k : K4} {cells : Array Value} (h : SealSt w W k cells) (hb : Below W.heap.size W W') : SealSt w W' k cells :=
  ⟨h.key.below hb h.key.lt, h.pdu.below hb h.pdu.lt, h.res.below hb h.res.lt, h.below.trans (hb.mono h.below.size)⟩
theorem SealSt.alloc {w W : World} {k : K4} {cells : Array Value} (h : SealSt w W k cells) (o : Obj) : SealSt w (W.alloc o) k cells := h.grow ((Below.refl _ _).alloc (Nat.le_refl _) o)
theorem SealSt.bytes {w W : World} {k : K4} {cells : Array Value} (h : SealSt w W k cells) {A : Option Addr} {c : Nat} {bs : List UInt8} (hB : Bytes w A c bs) : Bytes W A c bs := hB.below h.below
set_option maxHeartbeats 4000000 in
theorem pseal_k (k : K4) (kind dir train : Int) (a b : BitVec 32) (body : List UInt8) (mac : BitVec 64) (A : Option Addr) (n c : Nat) (w : World) (hn : body.length = n) (hB : Bytes w A c body) (hlen : body.length ≤ 2000) :
    Calls Try.prog 33 #[.agg #[q32 k.k0, q32 k.k1, q32 k.k2, q32 k.k3], .agg #[.int .i64 kind, .int .i64 dir, .int .i64 train, q32 a, q32 b, .slice A n c, q64 mac]] w fun e w' => ∃ v, e = .returned v ∧ IsPdu w.heap.size (seal7 k ⟨kind, dir, train, a, b, body, mac⟩) v w' ∧ Below w.heap.size w w' := by
  obtain ⟨q, hq⟩ : ∃ q, q = seal7 k ⟨kind, dir, train, a, b, body, mac⟩ := ⟨_, rfl⟩
  rw [← hq]
  have hmay : ∀ W Ab cb, Calls Try.prog 42 #[.agg #[.int .i64 kind, .int .i64 dir, .int .i64 train, q32 a, q32 b, .slice Ab n cb, q64 mac]] W fun e w' => e = .returned (.bool (may ⟨kind, dir, train, a, b, body, mac⟩)) ∧ Below W.heap.size W w' :=
    fun W Ab cb => may_k ⟨kind, dir, train, a, b, body, mac⟩ Ab n cb W hn.symm (by show body.length ≤ _; omega)
  have htext : ∀ W Ab cb, Bytes W Ab cb body → Calls Try.prog 51 #[.agg #[.int .i64 kind, .int .i64 dir, .int .i64 train, q32 a, q32 b, .slice Ab n cb, q64 mac]] W fun e w' => ∃ v, e = .returned v ∧ NewBytes W.heap.size (text ⟨kind, dir, train, a, b, body, mac⟩) v w' ∧ Below W.heap.size W w' :=
    fun W Ab cb h => text_k ⟨kind, dir, train, a, b, body, mac⟩ Ab n cb W hn.symm h hlen
  have htl := textB_len ⟨kind, dir, train, a, b, body, mac⟩
  have htl2 : (text ⟨kind, dir, train, a, b, body, mac⟩).length ≤ 65536 := by
    unfold text
    split
    · simp at htl; omega
    · simp
  have hq1 : ¬ (may ⟨kind, dir, train, a, b, body, mac⟩ = true ∧ kind ≠ 1) → q = ⟨kind, dir, train, a, b, body, mac⟩ := fun h => by rw [hq]; unfold seal7; rw [if_neg h]
  have hq2 : (may ⟨kind, dir, train, a, b, body, mac⟩ = true ∧ kind ≠ 1) → q = ⟨kind, dir, train, a, b, body, Mac k (text ⟨kind, dir, train, a, b, body, mac⟩)⟩ := fun h => by rw [hq]; unfold seal7; rw [if_pos h]
  clear hq htl
  generalize hmb : may ⟨kind, dir, train, a, b, body, mac⟩ = mb at *
  generalize htx : text ⟨kind, dir, train, a, b, body, mac⟩ = tx at *
  clear hmb htx
  have hlen' : body.length ≤ 65536 := by omega
  replace hlen := Lib.hid hlen
  go_enter Try.func33, Try.ntmps33
  go_wp2_with fail
  obtain ⟨w1, hw1⟩ : ∃ w1, w1 = ((w.alloc (.cells #[q32 k.k0, q32 k.k1, q32 k.k2, q32 k.k3] 24)).alloc (.cells #[.int .i64 kind, .int .i64 dir, .int .i64 train, q32 a, q32 b, .slice A n c, q64 mac] 30)).alloc (.cells #[.int .i64 0, .int .i64 0, .int .i64 0, .int .u32 0, .int .u32 0, .slice none 0 0, .int .u64 0] 30) := ⟨_, rfl⟩
  rw [← hw1]
  have hz1 : w1.heap.size = w.heap.size + 1 + 1 + 1 := by rw [hw1]; simp
  have S1 : SealSt w w1 k #[.int .i64 kind, .int .i64 dir, .int .i64 train, q32 a, q32 b, .slice A n c, q64 mac] := by
    rw [hw1]
    exact ⟨((Blk.new _ _ _).alloc _).alloc _, (Blk.newAt _ _ _ _ (by simp)).alloc _, Blk.newAt _ _ _ _ (by simp), (((Below.refl _ _).alloc (Nat.le_refl _) _).alloc (by simp) _).alloc (by simp; omega) _⟩
  clear hw1
  (with_reducible refine (joined_one A n c body w1 _ hn.symm hz1.symm (S1.bytes hB) hlen').mono ?_)
  rintro e w4 ⟨v4, rfl, hv4, hb4⟩
  have S4 := (S1.alloc _).grow hb4
  replace hv4 := hv4.mono (base' := w.heap.size + 1 + 1 + 1) (by simp; omega)
  obtain ⟨Ab, cb, rfl, hBb, _⟩ := id hv4
  rw [hn] at hv4
  have hv5 := hv4.setCell (p := ⟨w.heap.size + 1, 5, none⟩) (by show w.heap.size + 1 < _; omega) (.slice Ab n cb)
  have S5 : SealSt w _ k #[.int .i64 kind, .int .i64 dir, .int .i64 train, q32 a, q32 b, .slice Ab n cb, q64 mac] := S4.set 5 (.slice Ab n cb)
  clear hBb hb4 S1 hz1
  have hc4 := S4.pdu.cell
  have hf4 := S4.pdu.frozen
  have hlt5 : w.heap.size + 1 < w4.heap.size := S4.pdu.lt
  obtain ⟨Ab', cb', ev, hBb, _⟩ := id hv5
  simp only [Value.slice.injEq] at ev
  obtain ⟨rfl, hx, rfl⟩ := ev
  clear hx
  generalize hw5 : w4.setCell ⟨w.heap.size + 1, 5, none⟩ (.slice Ab n cb) = w5 at *
  by_cases hcs : mb = true ∧ kind ≠ 1
  · obtain ⟨rfl, hk1⟩ := hcs
    have hqe := Lib.hid (hq2 ⟨rfl, hk1⟩)
    clear hq1 hq2
    go_wp2_with (
      first
        | (go_at_call 42; (with_reducible refine (hmay _ Ab cb).mono ?_); rintro e w6 ⟨rfl, hb6⟩; have S6 := S5.grow hb6; have hv6 := hv5.grow hb6; have hB6 := hBb.below hb6; have hc6 := S6.pdu.cell; have hb06 := S6.below; have hr6 := S6.res)
        | (with_reducible refine wpList_load_blk rfl 30 (.tmp 3) rfl (w.heap.size + 1) rfl 30 #[.int .i64 kind, .int .i64 dir, .int .i64 train, q32 a, q32 b, .slice Ab n cb, q64 mac] _ S5.pdu Try.underlying30 rfl (by kernel_rfl) ?_)
        | (with_reducible refine wpList_load_blk rfl 30 (.tmp 3) rfl (w.heap.size + 1) rfl 30 #[.int .i64 kind, .int .i64 dir, .int .i64 train, q32 a, q32 b, .slice Ab n cb, q64 mac] _ S6.pdu Try.underlying30 rfl (by kernel_rfl) ?_)
        | (with_reducible refine wpList_store_own2 rfl 30 (.tmp 4) (.tmp 22) rfl (w.heap.size + 1 + 1) #[.int .i64 kind, .int .i64 dir, .int .i64 train, q32 a, q32 b, .slice Ab n cb, q64 mac] rfl rfl 30 _ hr6 (by kernel_rfl) rfl (by simp [Value.oneCell', q32, q64]) w.heap.size w hb06 (by omega) ?_; intro w7 hg7 hb07 hz7 hk7)
      )
    have hk1' : (kind != 1) = true := by simpa using hk1
    simp only [hk1']
    have hlt6 : w.heap.size + 1 < w6.heap.size := S6.pdu.lt
    have hkc6 := S6.key.cell
    have hlk6 : w.heap.size < w6.heap.size := S6.key.lt
    apply wp_region_lexl
    case hFl =>
      intro u
      simp only [List.map, fill, Act.put, List.setIfInBounds_toArray, List.set_cons_zero, List.set_cons_succ, Nat.reduceAdd, Nat.zero_add]
      rfl
    case hm => kernel_rfl
    case hB => kernel_rfl
    case hA => kernel_rfl
    case hap => kernel_rfl
    iterate 2 (
      apply LexL.is
      · (intro u w' hk hd
         simp [Waited, Region.binds, Is] at hd
         refine looked_want (by first | rfl | simp [Region.wanted, yielded, hd]) ?_
         intro K hK
         obtain ⟨hcR, _⟩ := bcell hk
         go_wp2_with (fail)
         try simp only [hd] at hK
         refine hK _ _ ?_ rfl
         first | exact Below.refl _ _ | exact hb3)
      )
    refine LexL.word (IsBytes tx) (fun _ _ _ h hb => h.grow hb) ?_ ?_
    · (intro u w' hk hd
       simp [Waited, Region.binds, Is] at hd
       refine looked_want (by first | rfl | simp [Region.wanted, yielded, hd]) ?_
       intro K hK
       obtain ⟨hcR, _⟩ := bcell hk
       skip
       go_wp2_with (go_at_call 51; (with_reducible refine (htext _ Ab cb (hB6.below hk)).mono ?_); rintro e w3 ⟨v3, rfl, hv3, hb3⟩)
       try simp only [hd] at hK
       exact hK _ _ hb3 hv3.is)
    refine LexL.is (c := q64 (Mac k tx)) ?_ ?_
    · (intro u w' hk hd
       simp [Waited, Region.binds, Is] at hd
       obtain ⟨hd1, At, ct, hd2, hBt⟩ := hd
       refine looked_want (by first | rfl | simp [Region.wanted, yielded]) ?_
       intro K hK
       go_wp2_with (go_at_call 50; go_loud (with_reducible refine (mac_k k At ct tx _ hBt htl2).mono ?_); rintro e w3 ⟨rfl, hb3⟩)
       try simp only [hd1, hd2] at hK
       exact hK _ _ hb3 rfl)
    apply LexL.is
    · (intro u w' hk hd
       simp [Waited, Region.binds, Is] at hd
       refine looked_want (by first | rfl | simp [Region.wanted, yielded, hd]) ?_
       intro K hK
       obtain ⟨hcR, _⟩ := bcell hk
       go_wp2_with (fail)
       try simp only [hd] at hK
       refine hK _ _ ?_ rfl
       first | exact Below.refl _ _ | exact hb3)
    refine LexL.last ?_
    intro u w8 hk hd
    simp only [List.nil_append, List.cons_append] at hd
    have hm3 := hd 3 _ rfl
    have hp4 := hd 4 _ rfl
    simp only [Is] at hm3 hp4
    clear hd
    refine ⟨rfl, ?_⟩
    intro K hK
    have S8 := S6.grow hk
    have hc8 := S8.pdu.cell
    have hf8 := S8.pdu.frozen
    have hv8 := (hv6.grow hk).setCell (p := ⟨w.heap.size + 1, 6, none⟩) (by show w.heap.size + 1 < _; omega) (q64 (Mac k tx))
    have S9 : SealSt w _ k #[.int .i64 kind, .int .i64 dir, .int .i64 train, q32 a, q32 b, .slice Ab n cb, q64 (Mac k tx)] := S8.set 6 (q64 (Mac k tx))
    have hb09 := S9.below
    have hr9 := S9.res
    have hv6 := hv8
    go_wp2_with (first
      | (with_reducible refine wpList_load_blk rfl 30 (.tmp 3) rfl (w.heap.size + 1) rfl 30 #[.int .i64 kind, .int .i64 dir, .int .i64 train, q32 a, q32 b, .slice Ab n cb, q64 (Mac k tx)] _ S9.pdu Try.underlying30 rfl (by kernel_rfl) ?_)
      | (with_reducible refine wpList_store_own2 rfl 30 (.tmp 4) (.tmp 22) rfl (w.heap.size + 1 + 1) #[.int .i64 kind, .int .i64 dir, .int .i64 train, q32 a, q32 b, .slice Ab n cb, q64 (Mac k tx)] rfl rfl 30 _ hr9 (by kernel_rfl) rfl (by simp [Value.oneCell', q32, q64]) w.heap.size w hb09 (by omega) ?_; intro w7 hg7 hb07 hz7 hk7))
    have hc7 := hg7.cell
    refine bodyPost_ret (v := .agg #[.int .i64 kind, .int .i64 dir, .int .i64 train, q32 a, q32 b, .slice Ab n cb, (q64 (Mac k tx))]) (by simp [results, Try.results33, go_sem, hc7]) rfl ⟨_, rfl, by rw [hqe.out]; exact ⟨_, rfl, (hv6.kept (by omega) fun k hk _ => hk7 k (by omega)).mono (by omega)⟩, hb07⟩
  · have hqe := Lib.hid (hq1 hcs)
    clear hq1 hq2
    rcases Bool.eq_false_or_eq_true mb with rfl | rfl
    · have hk1 : kind = 1 := by
        by_cases h : kind = 1
        · exact h
        · exact absurd ⟨rfl, h⟩ hcs
      clear hcs
      have hk1' : (kind != 1) = false := by simp [hk1]
      clear hk1
      go_wp2_with (
        first
          | (go_at_call 42; (with_reducible refine (hmay _ Ab cb).mono ?_); rintro e w6 ⟨rfl, hb6⟩; have S6 := S5.grow hb6; have hv6 := hv5.grow hb6; have hB6 := hBb.below hb6; have hc6 := S6.pdu.cell; have hb06 := S6.below; have hr6 := S6.res)
          | (with_reducible refine wpList_load_blk rfl 30 (.tmp 3) rfl (w.heap.size + 1) rfl 30 #[.int .i64 kind, .int .i64 dir, .int .i64 train, q32 a, q32 b, .slice Ab n cb, q64 mac] _ S5.pdu Try.underlying30 rfl (by kernel_rfl) ?_)
          | (with_reducible refine wpList_load_blk rfl 30 (.tmp 3) rfl (w.heap.size + 1) rfl 30 #[.int .i64 kind, .int .i64 dir, .int .i64 train, q32 a, q32 b, .slice Ab n cb, q64 mac] _ S6.pdu Try.underlying30 rfl (by kernel_rfl) ?_)
          | (with_reducible refine wpList_store_own2 rfl 30 (.tmp 4) (.tmp 22) rfl (w.heap.size + 1 + 1) #[.int .i64 kind, .int .i64 dir, .int .i64 train, q32 a, q32 b, .slice Ab n cb, q64 mac] rfl rfl 30 _ hr6 (by kernel_rfl) rfl (by simp [Value.oneCell', q32, q64]) w.heap.size w hb06 (by omega) ?_; intro w7 hg7 hb07 hz7 hk7)
        )
      have hc7 := hg7.cell
      refine bodyPost_ret (v := .agg #[.int .i64 kind, .int .i64 dir, .int .i64 train, q32 a, q32 b, .slice Ab n cb, (q64 mac)]) (by simp [results, Try.results33, go_sem, hc7]) rfl ⟨_, rfl, by rw [hqe.out]; exact ⟨_, rfl, (hv6.kept (by omega) fun k hk _ => hk7 k (by omega)).mono (by omega)⟩, hb07⟩
    · clear hcs
      go_wp2_with (
        first
          | (go_at_call 42; (with_reducible refine (hmay _ Ab cb).mono ?_); rintro e w6 ⟨rfl, hb6⟩; have S6 := S5.grow hb6; have hv6 := hv5.grow hb6; have hB6 := hBb.below hb6; have hc6 := S6.pdu.cell; have hb06 := S6.below; have hr6 := S6.res)
          | (with_reducible refine wpList_load_blk rfl 30 (.tmp 3) rfl (w.heap.size + 1) rfl 30 #[.int .i64 kind, .int .i64 dir, .int .i64 train, q32 a, q32 b, .slice Ab n cb, q64 mac] _ S5.pdu Try.underlying30 rfl (by kernel_rfl) ?_)
          | (with_reducible refine wpList_load_blk rfl 30 (.tmp 3) rfl (w.heap.size + 1) rfl 30 #[.int .i64 kind, .int .i64 dir, .int .i64 train, q32 a, q32 b, .slice Ab n cb, q64 mac] _ S6.pdu Try.underlying30 rfl (by kernel_rfl) ?_)
          | (with_reducible refine wpList_store_own2 rfl 30 (.tmp 4) (.tmp 22) rfl (w.heap.size + 1 + 1) #[.int .i64 kind, .int .i64 dir, .int .i64 train, q32 a, q32 b, .slice Ab n cb, q64 mac] rfl rfl 30 _ hr6 (by kernel_rfl) rfl (by simp [Value.oneCell', q32, q64]) w.heap.size w hb06 (by omega) ?_; intro w7 hg7 hb07 hz7 hk7)
        )
      have hc7 := hg7.cell
      refine bodyPost_ret (v := .agg #[.int .i64 kind, .int .i64 dir, .int .i64 train, q32 a, q32 b, .slice Ab n cb, (q64 mac)]) (by simp [results, Try.results33, go_sem, hc7]) rfl ⟨_, rfl, by rw [hqe.out]; exact ⟨_, rfl, (hv6.kept (by omega) fun k hk _ => hk7 k (by omega)).mono (by omega)⟩, hb07⟩
end Go.Proofs.Ytnngknmmokajgaa
