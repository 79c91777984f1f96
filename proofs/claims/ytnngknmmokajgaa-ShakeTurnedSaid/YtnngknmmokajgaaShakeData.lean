/- Data: the program's. -/
import Derived.Test.YtnngknmmokajgaaShakeClone
set_option linter.unusedSimpArgs false
set_option linter.unusedVariables false
namespace Go.Proofs.Ytnngknmmokajgaa
open Go.RowKit Go.Shelf

theorem Own.add2 {w W : World} {x0 x1 : Bk} (h : Own w W [x0, x1]) {g : Nat} {t : TypeId} {cs : Array Value} (hg : Blk W g t cs) (hlo : w.heap.size ≤ g) (h0 : x0.1 ≠ g) (h1 : x1.1 ≠ g) : Own w W [x0, x1, (g, t, cs)] := by
  refine ⟨h.below, ?_, ?_⟩
  · intro x hx
    simp only [List.mem_cons, List.not_mem_nil, or_false] at hx
    rcases hx with rfl | rfl | rfl
    · exact h.blk _ (by simp)
    · exact h.blk _ (by simp)
    · exact ⟨hlo, hg⟩
  · have := h.nodup
    simp only [List.map_cons, List.map_nil, List.nodup_cons, List.mem_cons, List.not_mem_nil, or_false] at this ⊢
    refine ⟨?_, h1, ⟨by simp, by simp⟩⟩
    rintro (a | a)
    · exact this.1 a
    · exact h0 a
theorem Own.add3 {w W : World} {x0 x1 x2 : Bk} (h : Own w W [x0, x1, x2]) {g : Nat} {t : TypeId} {cs : Array Value} (hg : Blk W g t cs) (hlo : w.heap.size ≤ g) (h0 : x0.1 ≠ g) (h1 : x1.1 ≠ g) (h2 : x2.1 ≠ g) : Own w W [x0, x1, x2, (g, t, cs)] := by
  refine ⟨h.below, ?_, ?_⟩
  · intro x hx
    simp only [List.mem_cons, List.not_mem_nil, or_false] at hx
    rcases hx with rfl | rfl | rfl | rfl
    · exact h.blk _ (by simp)
    · exact h.blk _ (by simp)
    · exact h.blk _ (by simp)
    · exact ⟨hlo, hg⟩
  · have := h.nodup
    simp only [List.map_cons, List.map_nil, List.nodup_cons, List.mem_cons, List.not_mem_nil, or_false] at this ⊢
    refine ⟨?_, ⟨?_, h2, ⟨by simp, by simp⟩⟩⟩
    · rintro (a | a | a)
      · exact this.1 (.inl a)
      · exact this.1 (.inr a)
      · exact h0 a
    · rintro (a | a)
      · exact this.2.1 a
      · exact h1 a
theorem pdu_none' : #[.int .i64 0, .int .i64 0, .int .i64 0, .int .u32 0, .int .u32 0, .slice none 0 0, .int .u64 0] = pduC P7.none_ none P7.none_.body.length 0 := by kernel_rfl
theorem NewBytes.apart {base : Nat} {bs : List UInt8} {v : Value} {w : World} {g : Nat} (h : NewBytes base bs v w) (hb : Blk w g 30 #[.int .i64 0, .int .i64 0, .int .i64 0, .int .u32 0, .int .u32 0, .slice none 0 0, .int .u64 0]) (X : Array Value) : NewBytes base bs v (w.setRow g X) := by
  obtain ⟨A', c', e, hB, hf⟩ := h
  have hne : ∀ g2, 0 < bs.length → A' = some ⟨g2, 0, none⟩ → g2 ≠ g := by
    rintro g2 h0 rfl rfl
    obtain ⟨b, off, e2, hlt, hc⟩ := hB.row (by rw [cellsOf_length]; exact h0)
    simp only [Option.some.injEq, Addr.mk.injEq, and_true] at e2
    obtain ⟨rfl, rfl⟩ := e2
    have h1 := hc 0 _ (cellsOf_at bs 0 h0)
    have h2 := hb.cell 0
    rw [Nat.zero_add] at h1
    rw [h1] at h2
    simp [q8] at h2
  refine ⟨A', c', e, ⟨fun h0 => ?_, hB.cap, hB.max⟩, fun h0 => ?_⟩
  · have h1 : 0 < bs.length := by rwa [cellsOf_length] at h0
    obtain ⟨g2, rfl, h2, h3, h4⟩ := hf h1
    obtain ⟨b, off, e2, hlt, hc⟩ := hB.row h0
    simp only [Option.some.injEq, Addr.mk.injEq, and_true] at e2
    obtain ⟨rfl, rfl⟩ := e2
    refine ⟨g2, 0, rfl, by simpa using hlt, fun j u hu => ?_⟩
    rw [World.cell?_of_block (setRow_other w g g2 X (hne g2 h1 rfl))]
    exact hc j u hu
  · obtain ⟨g2, rfl, h2, h3, h4⟩ := hf h0
    refine ⟨g2, rfl, h2, by simpa using h3, fun i hi => ?_⟩
    have := h4 i hi
    unfold World.frozen? at this ⊢
    rw [setRow_other w g g2 X (hne g2 h0 rfl)]
    exact this
set_option maxHeartbeats 8000000 in
theorem shdata_k (p : Peer10) (body : List UInt8) (A : Option Addr) (n c : Nat) (w : World) (hn : body.length = n) (hB : Bytes w A c body) (hlen : body.length ≤ 2000) : Calls Try.prog 20 #[.agg (peerC p), .slice A n c] w (RetQ10 w (dataQ p body) (dataE p body)) := by
  have hdir := fun W => shdir_k p W
  have hcl := fun W (h : Bytes W A c body) => bclone_k A n c body W hn h (by omega)
  have hmay : ∀ W A2 c2, Calls Try.prog 42 #[.agg #[.int .i64 5, .int .i64 (dir10 p), .int .i64 p.train, .int .u32 0, q32 p.b, .slice A2 n c2, .int .u64 0]] W fun e w' => e = .returned (.bool (may (dataq p body))) ∧ Below W.heap.size W w' := fun W A2 c2 => may_k (dataq p body) A2 n c2 W hn.symm (by show body.length ≤ _; omega)
  have hse : ∀ W A2 c2, Bytes W A2 c2 body → Calls Try.prog 33 #[.agg #[q32 p.key.k0, q32 p.key.k1, q32 p.key.k2, q32 p.key.k3], .agg #[.int .i64 5, .int .i64 (dir10 p), .int .i64 p.train, .int .u32 0, q32 p.b, .slice A2 n c2, .int .u64 0]] W fun e w' => ∃ A3 c3, e = .returned (.agg (pduC (seal7 p.key (dataq p body)) A3 n c3)) ∧ NewBytes W.heap.size body (.slice A3 n c3) w' ∧ Below W.heap.size W w' := by
    intro W A2 c2 h
    refine (pseal_k p.key 5 (dir10 p) p.train 0 p.b body 0 A2 n c2 W hn h hlen).mono ?_
    rintro e w' ⟨v, rfl, hv, hb⟩
    obtain ⟨bv, rfl, hN⟩ := hv
    have hbd : (seal7 p.key (dataq p body)).body = body := (seal_fields p.key (dataq p body)).2.2.2.2.2
    have hN' : NewBytes W.heap.size body bv w' := by
      have := hN
      rwa [show (seal7 p.key ⟨5, dir10 p, p.train, 0, p.b, body, 0⟩).body = body from hbd] at this
    obtain ⟨A3, c3, e3, h3⟩ := id hN'
    rw [hn] at e3
    subst e3
    exact ⟨A3, c3, rfl, hN', hb⟩
  have hO : Own w ((w.alloc (.cells (peerC p) 26)).alloc (.cells #[.int .i64 0, .int .i64 0, .int .i64 0, .int .u32 0, .int .u32 0, .slice none 0 0, .int .u64 0] 30)) [_, _] := Own.start2 w 26 30 (peerC p) #[.int .i64 0, .int .i64 0, .int .i64 0, .int .u32 0, .int .u32 0, .slice none 0 0, .int .u64 0]
  have hn' := Lib.hid hn
  clear hn
  go_enter Try.func20, Try.ntmps20
  go_wp2_with fail
  generalize ((w.alloc (.cells (peerC p) 26)).alloc (.cells #[.int .i64 0, .int .i64 0, .int .i64 0, .int .u32 0, .int .u32 0, .slice none 0 0, .int .u64 0] 30)) = w1 at hO ⊢
  apply wp_region_lexl
  case hFl =>
    intro u
    simp only [List.map, fill, Act.put, List.setIfInBounds_toArray, List.set_cons_zero, List.set_cons_succ, Nat.reduceAdd, Nat.zero_add]
    rfl
  case hm => kernel_rfl
  case hB => kernel_rfl
  case hA => kernel_rfl
  case hap => kernel_rfl
  refine LexL.is (c := .agg (peerC p)) ?_ ?_
  · (intro u w' hk hd
     have hbk := (hO.b0).below hk (hO.b0).lt
     refine looked_want (by first | rfl | simp [Region.wanted, yielded]) ?_
     intro K hK
     exact wp_load_row 26 _ rfl _ rfl 26 _ (0, 0) _ hbk Try.underlying26 rfl (by kernel_rfl) (hK _ _ (Below.refl _ _) rfl))
  apply LexL.is
  · (intro u w' hk hd
     simp [Waited, Region.binds, Is] at hd
     refine looked_want (by first | rfl | simp [Region.wanted, yielded, hd]) ?_
     intro K hK
     skip
     go_wp2_with ((go_at_call 40; (with_reducible refine (hdir _).mono ?_); rintro e w3 ⟨rfl, hb3⟩))
     try simp only [hd] at hK
     refine hK _ _ ?_ rfl
     first | exact Below.refl _ _ | exact hb3)
  apply LexL.is
  · (intro u w' hk hd
     simp [Waited, Region.binds, Is] at hd
     refine looked_want (by first | rfl | simp [Region.wanted, yielded, hd]) ?_
     intro K hK
     skip
     go_wp2_with (fail)
     try simp only [hd] at hK
     refine hK _ _ ?_ rfl
     first | exact Below.refl _ _ | exact hb3)
  apply LexL.is
  · (intro u w' hk hd
     simp [Waited, Region.binds, Is] at hd
     refine looked_want (by first | rfl | simp [Region.wanted, yielded, hd]) ?_
     intro K hK
     have hcp := fun i => ((hO.b0.below hk hO.b0.lt).cell i).trans (peer_cell p i)
     go_wp2_with (fail)
     try simp only [hd] at hK
     refine hK _ _ ?_ rfl
     first | exact Below.refl _ _ | exact hb3)
  apply LexL.is
  · (intro u w' hk hd
     simp [Waited, Region.binds, Is] at hd
     refine looked_want (by first | rfl | simp [Region.wanted, yielded, hd]) ?_
     intro K hK
     skip
     go_wp2_with (fail)
     try simp only [hd] at hK
     refine hK _ _ ?_ rfl
     first | exact Below.refl _ _ | exact hb3)
  apply LexL.is
  · (intro u w' hk hd
     simp [Waited, Region.binds, Is] at hd
     refine looked_want (by first | rfl | simp [Region.wanted, yielded, hd]) ?_
     intro K hK
     have hcp := fun i => ((hO.b0.below hk hO.b0.lt).cell i).trans (peer_cell p i)
     go_wp2_with (fail)
     try simp only [hd] at hK
     refine hK _ _ ?_ rfl
     first | exact Below.refl _ _ | exact hb3)
  apply LexL.is
  · (intro u w' hk hd
     simp [Waited, Region.binds, Is] at hd
     refine looked_want (by first | rfl | simp [Region.wanted, yielded, hd]) ?_
     intro K hK
     skip
     go_wp2_with (fail)
     try simp only [hd] at hK
     refine hK _ _ ?_ rfl
     first | exact Below.refl _ _ | exact hb3)
  refine LexL.word (NewBytes w1.heap.size body) (fun _ _ _ h hb => h.grow hb) ?_ ?_
  · (intro u w' hk hd
     simp [Waited, Region.binds, Is] at hd
     skip
     refine looked_want (by first | rfl | simp [Region.wanted, yielded]) ?_
     intro K hK
     go_wp2_with (go_at_call 41; (with_reducible refine (hcl _ ((hB.below hO.below).below hk)).mono ?_); rintro e w3 ⟨v3, rfl, hv3, hb3⟩)
     try simp only [hd] at hK
     exact hK _ _ (hb3) (hv3.mono hk.size))
  refine LexL.word (fun v w' => ∃ A2 c2, v = .agg #[.int .i64 5, .int .i64 (dir10 p), .int .i64 p.train, .int .u32 0, q32 p.b, .slice A2 n c2, .int .u64 0] ∧ NewBytes w1.heap.size body (.slice A2 n c2) w') (fun _ _ _ h hb => (by obtain ⟨A2, c2, e, h2⟩ := h; exact ⟨A2, c2, e, h2.grow hb⟩)) ?_ ?_
  · (intro u w' hk hd
     simp [Waited, Region.binds, Is] at hd
     obtain ⟨hd1, hd2, hd3, hd4⟩ := hd; obtain ⟨A2, c2, hd5, hd6⟩ := id hd4; rw [hn'.out] at hd5
     refine looked_want (by first | rfl | simp [Region.wanted, yielded]) ?_
     intro K hK
     go_wp2_with (fail)
     try simp only [hd1, hd2, hd3, hd5] at hK
     exact hK _ _ (Below.refl _ _) (⟨A2, c2, rfl, hd5 ▸ hd4⟩))
  refine LexL.word (IsNew w1.heap.size) (fun _ _ _ h hb => h.grow hb) ?_ ?_
  · (intro u w' hk hd
     simp [Waited, Region.binds, Is] at hd
     skip
     refine looked_want (by first | rfl | simp [Region.wanted, yielded]) ?_
     intro K hK
     go_wp2_with (fail)
     try simp only [hd] at hK
     exact hK _ _ ((Below.refl _ _).alloc (Nat.le_refl _) _) (⟨_, rfl, hk.size, Blk.new _ _ _⟩))
  refine LexL.last ?_
  intro u w8 hk hd
  simp only [List.nil_append, List.cons_append] at hd
  obtain ⟨A2, c2, h8, hv8⟩ := hd 8 _ rfl
  obtain ⟨g, h9, hg9, hb9⟩ := hd 9 _ rfl
  clear hd
  refine ⟨rfl, ?_⟩
  intro K hK
  have hlo := hO.b0.lt
  have hlo1 := hO.b1.lt
  replace hO := (hO.grow hk).add2 hb9 (Nat.le_trans hO.below.size hg9) (by show w.heap.size ≠ g; omega) (by show w.heap.size + 1 ≠ g; omega)
  refine wp_store_row 30 _ _ rfl g #[.int .i64 5, .int .i64 (dir10 p), .int .i64 p.train, .int .u32 0, q32 p.b, .slice A2 n c2, .int .u64 0] (by simp [Act.eval, h9]) (by simp [Act.eval, h8]) 30 _ hb9 (by kernel_rfl) rfl (by simp [Value.oneCell', q32, q64]) (hK _ _ ?_)
  have hv9 := hv8.apart hb9 #[.int .i64 5, .int .i64 (dir10 p), .int .i64 p.train, .int .u32 0, q32 p.b, .slice A2 n c2, .int .u64 0]
  replace hO := Own.with (L1 := [_, _]) hO (below_row hO.below (hO.blk (g, 30, #[.int .i64 0, .int .i64 0, .int .i64 0, .int .u32 0, .int .u32 0, .slice none 0 0, .int .u64 0]) (by simp)).1 #[.int .i64 5, .int .i64 (dir10 p), .int .i64 p.train, .int .u32 0, q32 p.b, .slice A2 n c2, .int .u64 0]) (Blk.row hb9 #[.int .i64 5, .int .i64 (dir10 p), .int .i64 p.train, .int .u32 0, q32 p.b, .slice A2 n c2, .int .u64 0]) (fun k hk => setRow_other w8 g k #[.int .i64 5, .int .i64 (dir10 p), .int .i64 p.train, .int .u32 0, q32 p.b, .slice A2 n c2, .int .u64 0] hk)
  clear hb9 hv8
  generalize w8.setRow g #[.int .i64 5, .int .i64 (dir10 p), .int .i64 p.train, .int .u32 0, q32 p.b, .slice A2 n c2, .int .u64 0] = w9 at *
  have hcp9 := fun i => (hO.b0.cell i).trans (peer_cell p i)
  have hB9 : Bytes w9 A2 c2 body := by
    obtain ⟨A', c', e, h, _⟩ := hv9
    rw [hn'.out] at e
    injection e with e1 e2 e3
    rw [e1, e3]; exact h
  by_cases hx : p.state = 2
  · have hx1 : (p.state != 2) = false := by simp [hx]
    cases hm : may (dataq p body) with
    | false =>
      rw [hm] at hmay
      have e0 : dataE p body = 1 := by unfold dataE; rw [if_neg (fun h => h hx), if_pos hm]
      have eq0 : dataQ p body = P7.none_ := by unfold dataQ; rw [e0]; rfl
      go_wp2_with (first
        | ((with_reducible refine own_loadg2 hO ?_ _ rfl rfl _ Try.underlying30 rfl (by kernel_rfl) ?_); (· first | rfl | (simp [Region.wanted, yielded]; done)))
        | (go_at_call 42; (with_reducible refine (hmay _ A2 c2).mono ?_); rintro e w10 ⟨rfl, hb10⟩; replace hO := hO.grow hb10; have hcp10 := fun i => (hO.b0.cell i).trans (peer_cell p i))
        | (with_reducible refine own_row1 (#[.int .i64 0, .int .i64 0, .int .i64 0, .int .u32 0, .int .u32 0, .slice none 0 0, .int .u64 0]) hO rfl _ _ rfl rfl rfl (by kernel_rfl) (by kernel_rfl) (by simp [Value.oneCell', q32, q64]) ?_; intro w41 hO41 hz41 hk41; replace hO := hO41; clear hO41 hz41 hk41))
      exact bodyPost_ret (results_ct Try.results20 _ _ _ _ _ _ rfl rfl hO.b1 Try.underlying30 rfl (by kernel_rfl)) rfl (by rw [eq0, e0]; exact ⟨none, 0, by rw [← pdu_none']; rfl, Bytes.nil _, hO.below⟩)
    | true =>
      rw [hm] at hmay
      have e0 : dataE p body = 0 := by unfold dataE; rw [if_neg (fun h => h hx), if_neg (by simp [hm])]
      have eq0 : dataQ p body = seal7 p.key (dataq p body) := by unfold dataQ; rw [e0, if_pos rfl]
      go_wp2_with (first
        | ((with_reducible refine own_loadg2 hO ?_ _ rfl rfl _ Try.underlying30 rfl (by kernel_rfl) ?_); (· first | rfl | (simp [Region.wanted, yielded]; done)))
        | (go_at_call 42; (with_reducible refine (hmay _ A2 c2).mono ?_); rintro e w10 ⟨rfl, hb10⟩; replace hO := hO.grow hb10; have hcp10 := fun i => (hO.b0.cell i).trans (peer_cell p i))
        | (go_at_call 33; (with_reducible refine (hse _ A2 c2 (hB9.below hb10)).mono ?_); rintro e w11 ⟨A3, c3, rfl, hN3, hb11⟩; have hlt10 := hO.b1.lt; replace hO := hO.grow hb11)
        | (with_reducible refine own_row1 (pduC (seal7 p.key (dataq p body)) A3 n c3) hO rfl _ _ rfl rfl rfl (pdu_size _ _ _ _) (by kernel_rfl) (pdu_cells _ _ _ _) ?_; intro w12 hO12 hz12 hk12; replace hO := hO12; have hN12 := hN3.kept (by omega) (fun k hk1 _ => hk12 k (by omega))))
      have hbd : (seal7 p.key (dataq p body)).body = body := (seal_fields p.key (dataq p body)).2.2.2.2.2
      have hBN : Bytes w12 A3 c3 body := by
        obtain ⟨A', c', e, h, _⟩ := hN12
        rw [hn'.out] at e
        injection e with e1 e2 e3
        rw [e1, e3]; exact h
      exact bodyPost_ret (results_ct Try.results20 _ _ _ _ _ _ rfl rfl hO.b1 Try.underlying30 rfl (pdu_size _ _ _ _)) rfl (by rw [eq0, e0]; exact ⟨A3, c3, by rw [hbd, hn'.out]; rfl, by rw [hbd]; exact hBN, hO.below⟩)
  · have hx1 : (p.state != 2) = true := by simp [hx]
    have e0 : dataE p body = 6 := by unfold dataE; rw [if_pos hx]
    have eq0 : dataQ p body = P7.none_ := by unfold dataQ; rw [e0]; rfl
    go_wp2_with (first
      | ((with_reducible refine own_loadg2 hO ?_ _ rfl rfl _ Try.underlying30 rfl (by kernel_rfl) ?_); (· first | rfl | (simp [Region.wanted, yielded]; done)))
      | (with_reducible refine own_row1 (#[.int .i64 0, .int .i64 0, .int .i64 0, .int .u32 0, .int .u32 0, .slice none 0 0, .int .u64 0]) hO rfl _ _ rfl rfl rfl (by kernel_rfl) (by kernel_rfl) (by simp [Value.oneCell', q32, q64]) ?_; intro w41 hO41 hz41 hk41; replace hO := hO41; clear hO41 hz41 hk41))
    exact bodyPost_ret (results_ct Try.results20 _ _ _ _ _ _ rfl rfl hO.b1 Try.underlying30 rfl (by kernel_rfl)) rfl (by rw [eq0, e0]; exact ⟨none, 0, by rw [← pdu_none']; rfl, Bytes.nil _, hO.below⟩)
end Go.Proofs.Ytnngknmmokajgaa
