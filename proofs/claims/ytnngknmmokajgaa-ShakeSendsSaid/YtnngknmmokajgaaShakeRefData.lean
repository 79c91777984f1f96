/- Data: the document's. -/
import Derived.Test.YtnngknmmokajgaaShakeData
import Derived.Test.YtnngknmmokajgaaShakeEnd
import Derived.Test.YtnngknmmokajgaaShakeClosed
set_option linter.unusedSimpArgs false
set_option linter.unusedVariables false
namespace Go.Proofs.Ytnngknmmokajgaa
open Go.RowKit Go.Shelf

theorem own_keyr {P : Program} {ops : Array Oper} {rest : List Oper} {o : Oper} {a : Act} {W : World} {Q : Exit → Act → World → Prop} {g : Nat} {t ty : TypeId} {p : Peer10} (hB : Blk W g t (peerC p)) (hw : Region.wanted o (yielded ops a.tmps) = true) (x : Operand) (ho : o.op = .load ty x) (hx : a.eval x = .pointer (some ⟨g, 9, none⟩)) (d : TypeDesc)
    (hu : P.underlying ty = some d) (hd : d.isRow = true) (hi : (P.info? ty).map (·.size) = some 4)
    (h : wpList P ops Q rest (a.put o.dst (.agg #[q32 p.key.k0, q32 p.key.k1, q32 p.key.k2, q32 p.key.k3])) W) : wpList P ops Q (o :: rest) a W :=
  wpList_want hw fun K hK => wp_load_mid ty x ho g 9 hx [q32 p.key.k0, q32 p.key.k1, q32 p.key.k2, q32 p.key.k3] d (peer_key hB) hu hd hi (hK _ _ h)
theorem may_data (p : Peer10) (body : List UInt8) : may (dataq p body) = (numbered10 p && decide (1 ≤ body.length) && decide (body.length ≤ 1023)) := by
  have h1 := dir_lo p
  rw [Bool.eq_iff_iff, may_iff]
  unfold MayP dataq numbered10
  simp
  omega
set_option maxHeartbeats 8000000 in
theorem rshdata_k (p : Peer10) (body : List UInt8) (A : Option Addr) (n c : Nat) (w : World) (hn : body.length = n) (hB : Bytes w A c body) (hlen : body.length ≤ 2000) : Calls Try.prog 22 #[.agg (peerC p), .slice A n c] w (RetQ10 w (dataQ p body) (dataE p body)) := by
  subst hn
  have hO : Own w _ [_, _] := Own.start2 w 26 30 (peerC p) #[.int .i64 0, .int .i64 0, .int .i64 0, .int .u32 0, .int .u32 0, .slice none 0 0, .int .u64 0]
  have hcp := fun i => (hO.b0.cell i).trans (peer_cell p i)
  have hnum := fun W => rshnum_k p W
  have hl := hB.len_le
  by_cases hx : p.state = 2
  · have hx1 : (p.state != 2) = false := by simp [hx]
    cases hm : may (dataq p body) with
    | false =>
      have e0 : dataE p body = 1 := by unfold dataE; rw [if_neg (fun h => h hx), if_pos hm]
      have eq0 : dataQ p body = P7.none_ := by unfold dataQ; rw [e0]; rfl
      rw [e0, eq0]
      clear e0 eq0
      rw [may_data] at hm
      cases hu : numbered10 p with
      | false =>
        rw [hu] at hnum
        clear hm
        go_enter Try.func22, Try.ntmps22
        go_wp2_with (first
          | ((with_reducible refine own_loadg0 hO ?_ _ rfl rfl _ Try.underlying26 rfl (peer_size p) ?_); (· first | rfl | (simp [Region.wanted, yielded]; done)))
          | (go_at_call 31; (with_reducible refine (hnum _).mono ?_); rintro e w1 ⟨rfl, hb1⟩; replace hO := hO.grow hb1)
          | (with_reducible refine own_row1 (#[.int .i64 0, .int .i64 0, .int .i64 0, .int .u32 0, .int .u32 0, .slice none 0 0, .int .u64 0]) hO rfl _ _ rfl rfl rfl (by kernel_rfl) (by kernel_rfl) (by simp [Value.oneCell', q32, q64]) ?_; intro w32 hO32 hz32 hk32; replace hO := hO32; clear hO32 hz32 hk32))
        exact bodyPost_ret (results_ct Try.results22 _ _ _ _ _ _ rfl rfl hO.b1 Try.underlying30 rfl (by kernel_rfl)) rfl ⟨none, 0, by rw [← pdu_none']; rfl, Bytes.nil _, hO.below⟩
      | true =>
        rw [hu] at hm hnum
        have hm' : body.length < 1 ∨ (1 ≤ body.length ∧ 1023 < body.length) := by simp at hm; omega
        clear hm
        rcases hm' with h | h <;>
          (go_enter Try.func22, Try.ntmps22
           go_wp2_with (first
             | ((with_reducible refine own_loadg0 hO ?_ _ rfl rfl _ Try.underlying26 rfl (peer_size p) ?_); (· first | rfl | (simp [Region.wanted, yielded]; done)))
             | (go_at_call 31; (with_reducible refine (hnum _).mono ?_); rintro e w1 ⟨rfl, hb1⟩; replace hO := hO.grow hb1)
             | (with_reducible refine own_row1 (#[.int .i64 0, .int .i64 0, .int .i64 0, .int .u32 0, .int .u32 0, .slice none 0 0, .int .u64 0]) hO rfl _ _ rfl rfl rfl (by kernel_rfl) (by kernel_rfl) (by simp [Value.oneCell', q32, q64]) ?_; intro w32 hO32 hz32 hk32; replace hO := hO32; clear hO32 hz32 hk32))
           exact bodyPost_ret (results_ct Try.results22 _ _ _ _ _ _ rfl rfl hO.b1 Try.underlying30 rfl (by kernel_rfl)) rfl ⟨none, 0, by rw [← pdu_none']; rfl, Bytes.nil _, hO.below⟩)
    | true =>
      have e0 : dataE p body = 0 := by unfold dataE; rw [if_neg (fun h => h hx), if_neg (by simp [hm])]
      have eq0 : dataQ p body = seal7 p.key (dataq p body) := by unfold dataQ; rw [e0, if_pos rfl]
      rw [e0, eq0]
      clear e0 eq0
      rw [may_data] at hm
      simp only [Bool.and_eq_true, decide_eq_true_eq] at hm
      obtain ⟨⟨hu, g1⟩, g2⟩ := hm
      rw [hu] at hnum
      clear hu
      by_cases hs : p.side = 0
      · have hs1 : (p.side == 0) = true := by simp [hs]
        have hd : dir10 p = 0 := by unfold dir10; simp [hs]
        have hq : dataq p body = ⟨5, 0, p.train, 0, p.b, body, 0⟩ := by unfold dataq; rw [hd]
        rw [hq]
        clear hq hd
        have hse := fun W (h : Bytes W A c body) => rseal_x p.key 5 0 p.train 0 p.b body 0 A body.length c W rfl h hlen
        obtain ⟨Q, hQ⟩ : ∃ Q, seal7 p.key ⟨5, 0, p.train, 0, p.b, body, 0⟩ = Q := ⟨_, rfl⟩
        have hqc : (#[.int .i64 5, .int .i64 0, .int .i64 p.train, q32 0, q32 p.b, .slice A body.length c, q64 (seal7 p.key ⟨5, 0, p.train, 0, p.b, body, 0⟩).mac] : Array Value) = pduC Q A body.length c := by
          obtain ⟨f1, f2, f3, f4, f5, f6⟩ := seal_fields p.key ⟨5, 0, p.train, 0, p.b, body, 0⟩
          rw [← hQ]; unfold pduC; rw [f1, f2, f3, f4, f5]
        have hse : ∀ W, Bytes W A c body → Calls Try.prog 35 #[.agg #[q32 p.key.k0, q32 p.key.k1, q32 p.key.k2, q32 p.key.k3], .agg #[.int .i64 5, .int .i64 0, .int .i64 p.train, .int .u32 0, q32 p.b, .slice A body.length c, .int .u64 0]] W fun e w' => e = .returned (.agg (pduC Q A body.length c)) ∧ Below W.heap.size W w' := fun W h => by
          have := rseal_x p.key 5 0 p.train 0 p.b body 0 A body.length c W rfl h hlen
          rw [hqc] at this
          exact this
        have hbd : Q.body = body := by rw [← hQ]; exact (seal_fields p.key _).2.2.2.2.2
        rw [hQ]
        clear hQ hqc
        go_enter Try.func22, Try.ntmps22
        go_wp2_with (first
          | ((with_reducible refine own_loadg0 hO ?_ _ rfl rfl _ Try.underlying26 rfl (peer_size p) ?_); (· first | rfl | (simp [Region.wanted, yielded]; done)))
          | (go_at_call 31; (with_reducible refine (hnum _).mono ?_); rintro e w1 ⟨rfl, hb1⟩; replace hO := hO.grow hb1; have hcp1 := fun i => (hO.b0.cell i).trans (peer_cell p i))
          | (with_reducible refine own_row2 (#[.int .i64 5, .int .i64 0, .int .i64 p.train, .int .u32 0, q32 p.b, .slice A body.length c, .int .u64 0]) (hO.new2 30 #[.int .i64 0, .int .i64 0, .int .i64 0, .int .u32 0, .int .u32 0, .slice none 0 0, .int .u64 0]) rfl _ _ rfl rfl rfl (by kernel_rfl) (by kernel_rfl) (by simp [Value.oneCell', q32, q64]) ?_; intro w21 hO21 hz21 hk21; replace hO := hO21; clear hO21 hz21 hk21)
          | ((with_reducible refine own_loadg2 hO ?_ _ rfl rfl _ Try.underlying30 rfl (by kernel_rfl) ?_); (· first | rfl | (simp [Region.wanted, yielded]; done)))
          | ((with_reducible refine own_keyr hO.b0 ?_ _ rfl rfl _ Try.underlying24 rfl (by kernel_rfl) ?_); (· first | rfl | (simp [Region.wanted, yielded]; done)))
          | (go_at_call 35; (with_reducible refine (hse _ (hB.below hO.below)).mono ?_); rintro e w3 ⟨rfl, hb3⟩; replace hO := hO.grow hb3)
          | (with_reducible refine own_row1 (pduC Q A body.length c) hO rfl _ _ rfl rfl rfl (pdu_size Q A body.length c) (by kernel_rfl) (pdu_cells Q A body.length c) ?_; intro w31 hO31 hz31 hk31; replace hO := hO31; clear hO31 hz31 hk31))
        exact bodyPost_ret (results_ct Try.results22 _ _ _ _ _ _ rfl rfl hO.b1 Try.underlying30 rfl (pdu_size _ _ _ _)) rfl ⟨A, c, by rw [hbd]; rfl, by rw [hbd]; exact hB.below hO.below, hO.below⟩
      · have hs1 : (p.side == 0) = false := by simp [hs]
        have hd : dir10 p = 1 := by unfold dir10; simp [hs]
        have hq : dataq p body = ⟨5, 1, p.train, 0, p.b, body, 0⟩ := by unfold dataq; rw [hd]
        rw [hq]
        clear hq hd
        have hse := fun W (h : Bytes W A c body) => rseal_x p.key 5 1 p.train 0 p.b body 0 A body.length c W rfl h hlen
        obtain ⟨Q, hQ⟩ : ∃ Q, seal7 p.key ⟨5, 1, p.train, 0, p.b, body, 0⟩ = Q := ⟨_, rfl⟩
        have hqc : (#[.int .i64 5, .int .i64 1, .int .i64 p.train, q32 0, q32 p.b, .slice A body.length c, q64 (seal7 p.key ⟨5, 1, p.train, 0, p.b, body, 0⟩).mac] : Array Value) = pduC Q A body.length c := by
          obtain ⟨f1, f2, f3, f4, f5, f6⟩ := seal_fields p.key ⟨5, 1, p.train, 0, p.b, body, 0⟩
          rw [← hQ]; unfold pduC; rw [f1, f2, f3, f4, f5]
        have hse : ∀ W, Bytes W A c body → Calls Try.prog 35 #[.agg #[q32 p.key.k0, q32 p.key.k1, q32 p.key.k2, q32 p.key.k3], .agg #[.int .i64 5, .int .i64 1, .int .i64 p.train, .int .u32 0, q32 p.b, .slice A body.length c, .int .u64 0]] W fun e w' => e = .returned (.agg (pduC Q A body.length c)) ∧ Below W.heap.size W w' := fun W h => by
          have := rseal_x p.key 5 1 p.train 0 p.b body 0 A body.length c W rfl h hlen
          rw [hqc] at this
          exact this
        have hbd : Q.body = body := by rw [← hQ]; exact (seal_fields p.key _).2.2.2.2.2
        rw [hQ]
        clear hQ hqc
        go_enter Try.func22, Try.ntmps22
        go_wp2_with (first
          | ((with_reducible refine own_loadg0 hO ?_ _ rfl rfl _ Try.underlying26 rfl (peer_size p) ?_); (· first | rfl | (simp [Region.wanted, yielded]; done)))
          | (go_at_call 31; (with_reducible refine (hnum _).mono ?_); rintro e w1 ⟨rfl, hb1⟩; replace hO := hO.grow hb1; have hcp1 := fun i => (hO.b0.cell i).trans (peer_cell p i))
          | (with_reducible refine own_row2 (#[.int .i64 5, .int .i64 1, .int .i64 p.train, .int .u32 0, q32 p.b, .slice A body.length c, .int .u64 0]) (hO.new2 30 #[.int .i64 0, .int .i64 0, .int .i64 0, .int .u32 0, .int .u32 0, .slice none 0 0, .int .u64 0]) rfl _ _ rfl rfl rfl (by kernel_rfl) (by kernel_rfl) (by simp [Value.oneCell', q32, q64]) ?_; intro w21 hO21 hz21 hk21; replace hO := hO21; clear hO21 hz21 hk21)
          | ((with_reducible refine own_loadg2 hO ?_ _ rfl rfl _ Try.underlying30 rfl (by kernel_rfl) ?_); (· first | rfl | (simp [Region.wanted, yielded]; done)))
          | ((with_reducible refine own_keyr hO.b0 ?_ _ rfl rfl _ Try.underlying24 rfl (by kernel_rfl) ?_); (· first | rfl | (simp [Region.wanted, yielded]; done)))
          | (go_at_call 35; (with_reducible refine (hse _ (hB.below hO.below)).mono ?_); rintro e w3 ⟨rfl, hb3⟩; replace hO := hO.grow hb3)
          | (with_reducible refine own_row1 (pduC Q A body.length c) hO rfl _ _ rfl rfl rfl (pdu_size Q A body.length c) (by kernel_rfl) (pdu_cells Q A body.length c) ?_; intro w31 hO31 hz31 hk31; replace hO := hO31; clear hO31 hz31 hk31))
        exact bodyPost_ret (results_ct Try.results22 _ _ _ _ _ _ rfl rfl hO.b1 Try.underlying30 rfl (pdu_size _ _ _ _)) rfl ⟨A, c, by rw [hbd]; rfl, by rw [hbd]; exact hB.below hO.below, hO.below⟩
  · have hx1 : (p.state != 2) = true := by simp [hx]
    have e0 : dataE p body = 6 := by unfold dataE; rw [if_pos hx]
    have eq0 : dataQ p body = P7.none_ := by unfold dataQ; rw [e0]; rfl
    rw [e0, eq0]
    go_enter Try.func22, Try.ntmps22
    go_wp2_with (first
      | (with_reducible refine own_row1 (#[.int .i64 0, .int .i64 0, .int .i64 0, .int .u32 0, .int .u32 0, .slice none 0 0, .int .u64 0]) hO rfl _ _ rfl rfl rfl (by kernel_rfl) (by kernel_rfl) (by simp [Value.oneCell', q32, q64]) ?_; intro w32 hO32 hz32 hk32; replace hO := hO32; clear hO32 hz32 hk32))
    exact bodyPost_ret (results_ct Try.results22 _ _ _ _ _ _ rfl rfl hO.b1 Try.underlying30 rfl (by kernel_rfl)) rfl ⟨none, 0, by rw [← pdu_none']; rfl, Bytes.nil _, hO.below⟩
end Go.Proofs.Ytnngknmmokajgaa
