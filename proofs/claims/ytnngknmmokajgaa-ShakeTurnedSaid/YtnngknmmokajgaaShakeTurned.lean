/- turned: a PDU of whose bytes one is turned; it is not right under the key. -/
import Derived.Test.YtnngknmmokajgaaPduDecD
import Derived.Test.YtnngknmmokajgaaShakeData
import Derived.Test.YtnngknmmokajgaaOwnLaw
set_option linter.unusedSimpArgs false
set_option linter.unusedVariables false
namespace Go.Proofs.Ytnngknmmokajgaa
open Go.RowKit Go.Shelf

theorem body_le' (q : P7) (h : may q = true) : q.body.length ≤ (enc q).length := by
  unfold enc
  rw [if_pos h]
  unfold textB
  simp only [List.length_append]
  omega
theorem Bytes.set_at {w : World} {g c : Nat} {bs : List UInt8} (h : Bytes w (some ⟨g, 0, none⟩) c bs) (i : Nat) (x : UInt8) (hi : i < bs.length) : Bytes (w.setCell ⟨g, i, none⟩ (q8 x)) (some ⟨g, 0, none⟩) c (bs.set i x) := by
  refine ⟨fun h0 => ?_, by rw [List.length_set]; exact h.cap, h.max⟩
  rw [cellsOf_length, List.length_set] at h0
  obtain ⟨b', off', e, hlt, hc⟩ := h.row (by rw [cellsOf_length]; exact h0)
  simp only [Option.some.injEq, Addr.mk.injEq, and_true] at e
  obtain ⟨rfl, rfl⟩ := e
  refine ⟨g, 0, rfl, by simpa [World.setCell] using hlt, fun j u hu => ?_⟩
  have hci := hc i (q8 (nth bs i)) (cellsOf_at bs i hi)
  rw [Nat.zero_add] at hci ⊢
  simp only [cellsOf, List.getElem?_map] at hu
  by_cases hj : i = j
  · subst hj
    rw [List.getElem?_set_self hi] at hu
    simp only [Option.map_some, Option.some.injEq] at hu
    rw [← hu]
    exact World.cell?_setCell_same' w _ _ (by rw [hci]; rfl)
  · rw [List.getElem?_set_ne hj] at hu
    have := hc j u (by simpa [cellsOf, List.getElem?_map] using hu)
    rw [Nat.zero_add] at this
    rw [← this]
    exact World.cell?_setCell_other w _ _ _ (by intro e; injection e with _ e2; exact hj e2)
theorem enc_le (p : P7) (h : may p = true) : (enc p).length ≤ 2000 := by
  have hM := may_iff.1 h
  unfold MayP at hM
  have hb : p.body.length ≤ 1023 := by omega
  have h1 := textB_len p
  unfold enc
  rw [if_pos h, List.length_append]
  have h2 : (if 1 < p.kind then be 8 p.mac.toNat else []).length ≤ 8 := by split <;> simp [be_length]
  omega
theorem late_set (k : K4) (s q : P7) (en : List UInt8) (hen : enc s = en) (hr : right7 k s = true) (i : Nat) (by_ : UInt8) (hi : i < en.length) (hby : by_ ≠ 0) (hq : enc q = en.set i (nth en i ^^^ by_)) : right7 k q = false := by
  cases h : right7 k q with
  | false => rfl
  | true =>
    subst hen
    refine absurd hq (turned k s q hr h i _ hi ?_)
    intro e
    apply hby
    have h2 : nth (enc s) i ^^^ (nth (enc s) i ^^^ by_) = nth (enc s) i ^^^ nth (enc s) i := by rw [e]
    rw [← UInt8.xor_assoc, UInt8.xor_self, UInt8.zero_xor] at h2
    exact h2
theorem Own.far {w W : World} {L : List Bk} (h : Own w W L) {p : Addr} (hp : w.heap.size ≤ p.block) (hn : ∀ x, x ∈ L → x.1 ≠ p.block) (v : Value) : Own w (W.setCell p v) L :=
  ⟨h.below.setCell hp v, fun x hx => ⟨(h.blk x hx).1, (h.blk x hx).2.far (hn x hx) v⟩, h.nodup⟩
theorem no8_q (q : P7) (A : Option Addr) (n c : Nat) : (pduC q A n c).all (fun v => !is8 v) = true := by kernel_rfl
set_option maxHeartbeats 8000000 in
theorem turned_k (k : K4) (s : P7) (hm : may s = true) (hr1 : right7 k s = true) (A : Option Addr) (n c : Nat) (w : World) (hn : s.body.length = n) (hB : Bytes w A c s.body) (hsb : s.body.length ≤ 2000) (at_ : Int) (by_ : UInt8) (h3 : by_ ≠ 0) :
    Calls Try.prog 28 #[.agg (pduC s A n c), .int .i64 at_, q8 by_] w fun e w' => ∃ t is A' c', e = .returned (.tuple #[.agg (pduC t A' t.body.length c'), .bool is]) ∧ (is = true → right7 k t = false ∧ t.body.length ≤ 2000 ∧ Bytes w' A' c' t.body) ∧ Below w.heap.size w w' := by
  subst hn
  obtain ⟨en, hen⟩ : ∃ en, enc s = en := ⟨_, rfl⟩
  have henl : en.length ≤ 2000 := by rw [← hen]; exact enc_le s hm
  have henp : 0 < en.length := by
    have := textB_pos s
    rw [← hen]
    unfold enc
    rw [if_pos hm, List.length_append]
    omega
  have hpe : ∀ W, Bytes W A c s.body → Calls Try.prog 47 #[.agg (pduC s A s.body.length c)] W fun e w' => ∃ g c3, e = .returned (.tuple #[.slice (some ⟨g, 0, none⟩) en.length c3, .int .i64 0]) ∧ Bytes w' (some ⟨g, 0, none⟩) c3 en ∧ W.heap.size ≤ g ∧ (∀ i, i < en.length → w'.frozen? ⟨g, i, none⟩ = false) ∧ Below W.heap.size W w' := fun W h => by
    refine (penc_k s A _ c W rfl h hsb).mono ?_
    rintro e w' ⟨v, rfl, ⟨A3, c3, rfl, hB3, hf⟩, hb⟩
    rw [hen] at hB3 hf
    obtain ⟨g, rfl, h1, h2, h3⟩ := hf henp
    refine ⟨g, c3, ?_, hB3, h1, h3, hb⟩
    rw [hm, hen]
    rfl
  have hl := hB.len_le
  have hset := fun q => late_set k s q en hen hr1
  have hO : Own w _ [_, _] := Own.start2 w 30 30 (pduC s A s.body.length c) #[.int .i64 0, .int .i64 0, .int .i64 0, .int .u32 0, .int .u32 0, .slice none 0 0, .int .u64 0]
  clear hm hen hr1
  by_cases h1 : at_ < 0
  · go_enter Try.func28, Try.ntmps28
    go_wp2_with (first
      | ((with_reducible refine own_loadg0 hO ?_ _ rfl rfl _ Try.underlying30 rfl (pdu_size _ _ _ _) ?_); (· first | rfl | (simp [Region.wanted, yielded]; done)))
      | ((with_reducible refine own_loadg2 hO ?_ _ rfl rfl _ Try.underlying30 rfl (pdu_size _ _ _ _) ?_); (· first | rfl | (simp [Region.wanted, yielded]; done)))
      | (go_at_call 47; (with_reducible refine (hpe _ (hB.below hO.below)).mono ?_); rintro e w3 ⟨g, c3, rfl, hB3, hg3, hf3, hb3⟩; have hl1 := hO.b1.lt; replace hO := hO.grow hb3)
      | (with_reducible refine own_row1 (#[.int .i64 0, .int .i64 0, .int .i64 0, .int .u32 0, .int .u32 0, .slice none 0 0, .int .u64 0]) hO rfl _ _ rfl rfl rfl (by kernel_rfl) (by kernel_rfl) (by simp [Value.oneCell', q32, q64]) ?_; intro w32 hO32 hz32 hk32; replace hO := hO32; clear hO32 hz32 hk32))
    exact bodyPost_ret (results_ct Try.results28 _ _ _ _ _ _ rfl rfl hO.b1 Try.underlying30 rfl (by kernel_rfl)) rfl ⟨P7.none_, false, none, 0, by rw [← pdu_none']; rfl, (fun h => by cases h), hO.below⟩
  by_cases h2 : (en.length : Int) ≤ at_
  · go_enter Try.func28, Try.ntmps28
    go_wp2_with (first
      | ((with_reducible refine own_loadg0 hO ?_ _ rfl rfl _ Try.underlying30 rfl (pdu_size _ _ _ _) ?_); (· first | rfl | (simp [Region.wanted, yielded]; done)))
      | ((with_reducible refine own_loadg2 hO ?_ _ rfl rfl _ Try.underlying30 rfl (pdu_size _ _ _ _) ?_); (· first | rfl | (simp [Region.wanted, yielded]; done)))
      | (go_at_call 47; (with_reducible refine (hpe _ (hB.below hO.below)).mono ?_); rintro e w3 ⟨g, c3, rfl, hB3, hg3, hf3, hb3⟩; have hl1 := hO.b1.lt; replace hO := hO.grow hb3)
      | (with_reducible refine own_row1 (#[.int .i64 0, .int .i64 0, .int .i64 0, .int .u32 0, .int .u32 0, .slice none 0 0, .int .u64 0]) hO rfl _ _ rfl rfl rfl (by kernel_rfl) (by kernel_rfl) (by simp [Value.oneCell', q32, q64]) ?_; intro w32 hO32 hz32 hk32; replace hO := hO32; clear hO32 hz32 hk32))
    exact bodyPost_ret (results_ct Try.results28 _ _ _ _ _ _ rfl rfl hO.b1 Try.underlying30 rfl (by kernel_rfl)) rfl ⟨P7.none_, false, none, 0, by rw [← pdu_none']; rfl, (fun h => by cases h), hO.below⟩
  obtain ⟨i, rfl⟩ : ∃ i : Nat, at_ = i := ⟨at_.toNat, by omega⟩
  have hi : i < en.length := by omega
  have hset' := fun q h => hset q i by_ hi h3 h
  clear h3 hset
  obtain ⟨x, hx⟩ : ∃ x, x = nth en i := ⟨_, rfl⟩
  rw [← hx] at hset'
  obtain ⟨en', hen'⟩ : ∃ en', en' = en.set i (x ^^^ by_) := ⟨_, rfl⟩
  rw [← hen'] at hset'
  have hel : en'.length = en.length := by rw [hen', List.length_set]
  replace hen' := Lib.hid hen'
  replace hx := Lib.hid hx
  cases hd : decI en' with
  | none =>
    have hde : ∀ W A' c', Bytes W A' c' en' → Calls Try.prog 48 #[.slice A' en.length c'] W fun e w' => ∃ A' c', e = .returned (.tuple #[.agg (pduC P7.none_ A' 0 c'), .int .i64 8]) ∧ Bytes w' A' c' [] ∧ Below W.heap.size W w' := by
      intro W A' c' h
      refine (pdec_k A' _ c' en' W hel.symm h (by omega)).mono ?_
      rw [hd]
      rintro e w' ⟨v, rfl, ⟨bv, rfl, A', c', rfl, hB', _⟩, hb⟩
      exact ⟨A', c', rfl, hB', hb⟩
    clear hd hset' hel
    go_enter Try.func28, Try.ntmps28
    go_wp2_with (first
      | ((with_reducible refine own_loadg0 hO ?_ _ rfl rfl _ Try.underlying30 rfl (pdu_size _ _ _ _) ?_); (· first | rfl | (simp [Region.wanted, yielded]; done)))
      | ((with_reducible refine own_loadg2 hO ?_ _ rfl rfl _ Try.underlying30 rfl (pdu_size _ _ _ _) ?_); (· first | rfl | (simp [Region.wanted, yielded]; done)))
      | (go_at_call 47; (with_reducible refine (hpe _ (hB.below hO.below)).mono ?_); rintro e w3 ⟨g, c3, rfl, hB3, hg3, hf3, hb3⟩; have hl1 := hO.b1.lt; replace hO := hO.grow hb3; go_loud (have hfr : w3.frozen? ⟨g, i, none⟩ = false := hf3 i hi; have hce : w3.cell? ⟨g, i, none⟩ = some (q8 x) := (by have h0 := Bytes.at_ hB3 hi; rw [← hx.out] at h0; obtain ⟨b', off', e', _, hcc⟩ := h0; simp only [Option.some.injEq, Addr.mk.injEq, and_true] at e'; obtain ⟨rfl, rfl⟩ := e'; rwa [Nat.zero_add] at hcc); have hB5 := Bytes.set_at hB3 i (x ^^^ by_) hi; rw [← hen'.out] at hB5; have hO5 := hO.far (p := ⟨g, i, none⟩) (by show _ ≤ g; omega) (by intro y hy; simp at hy; rcases hy with rfl | rfl <;> (show _ ≠ g; omega)) (q8 (x ^^^ by_)); have hB0 := hB.below hO5.below))
      | (go_at_call 48; (with_reducible refine (hde _ _ _ hB5).mono ?_); rintro e w5 ⟨A5, c5, rfl, hB6, hb5⟩; have hO6 := hO5.grow hb5; clear hO; have hO := hO6; clear hO6 hO5)
      | (with_reducible refine own_row2 (pduC P7.none_ A5 0 c5) (hO.new2 30 #[.int .i64 0, .int .i64 0, .int .i64 0, .int .u32 0, .int .u32 0, .slice none 0 0, .int .u64 0]) rfl _ _ rfl rfl rfl (pdu_size P7.none_ A5 0 c5) (by kernel_rfl) (pdu_cells P7.none_ A5 0 c5) ?_; intro w51 hO51 hz51 hk51; have hB51 := (hB6.alloc _).apart (Blk.new w5 _ _) (by kernel_rfl) hz51 hk51; replace hO := hO51; clear hO51 hz51 hk51)
      | (with_reducible refine own_row1 (pduC P7.none_ A5 0 c5) hO rfl _ _ rfl rfl rfl (pdu_size P7.none_ A5 0 c5) (by kernel_rfl) (pdu_cells P7.none_ A5 0 c5) ?_; intro w52 hO52 hz52 hk52; have hB52 := hB51.apart hO.b1 (by kernel_rfl) hz52 hk52; replace hO := hO52; clear hO52 hz52 hk52))
    exact bodyPost_ret (results_ct Try.results28 _ _ _ _ _ _ rfl rfl hO.b1 Try.underlying30 rfl (pdu_size _ _ _ _)) rfl ⟨P7.none_, false, A5, c5, rfl, (fun h => by cases h), hO.below⟩
  | some q =>
    obtain ⟨hmq, heq⟩ := (decI_spec en' q).1 hd
    have hrq := hset' q heq
    have hqb : q.body.length ≤ 2000 := by
      have := body_le' q hmq
      rw [heq] at this
      omega
    have hde : ∀ W A' c', Bytes W A' c' en' → Calls Try.prog 48 #[.slice A' en.length c'] W fun e w' => ∃ A' c', e = .returned (.tuple #[.agg (pduC q A' q.body.length c'), .int .i64 0]) ∧ Bytes w' A' c' q.body ∧ Below W.heap.size W w' := by
      intro W A' c' h
      refine (pdec_k A' _ c' en' W hel.symm h (by omega)).mono ?_
      rw [hd]
      rintro e w' ⟨v, rfl, ⟨bv, rfl, A', c', rfl, hB', _⟩, hb⟩
      exact ⟨A', c', rfl, hB', hb⟩
    clear hd hset' hel hmq heq
    go_enter Try.func28, Try.ntmps28
    go_wp2_with (first
      | ((with_reducible refine own_loadg0 hO ?_ _ rfl rfl _ Try.underlying30 rfl (pdu_size _ _ _ _) ?_); (· first | rfl | (simp [Region.wanted, yielded]; done)))
      | ((with_reducible refine own_loadg2 hO ?_ _ rfl rfl _ Try.underlying30 rfl (pdu_size _ _ _ _) ?_); (· first | rfl | (simp [Region.wanted, yielded]; done)))
      | (go_at_call 47; (with_reducible refine (hpe _ (hB.below hO.below)).mono ?_); rintro e w3 ⟨g, c3, rfl, hB3, hg3, hf3, hb3⟩; have hl1 := hO.b1.lt; replace hO := hO.grow hb3; go_loud (have hfr : w3.frozen? ⟨g, i, none⟩ = false := hf3 i hi; have hce : w3.cell? ⟨g, i, none⟩ = some (q8 x) := (by have h0 := Bytes.at_ hB3 hi; rw [← hx.out] at h0; obtain ⟨b', off', e', _, hcc⟩ := h0; simp only [Option.some.injEq, Addr.mk.injEq, and_true] at e'; obtain ⟨rfl, rfl⟩ := e'; rwa [Nat.zero_add] at hcc); have hB5 := Bytes.set_at hB3 i (x ^^^ by_) hi; rw [← hen'.out] at hB5; have hO5 := hO.far (p := ⟨g, i, none⟩) (by show _ ≤ g; omega) (by intro y hy; simp at hy; rcases hy with rfl | rfl <;> (show _ ≠ g; omega)) (q8 (x ^^^ by_)); have hB0 := hB.below hO5.below))
      | (go_at_call 48; (with_reducible refine (hde _ _ _ hB5).mono ?_); rintro e w5 ⟨A5, c5, rfl, hB6, hb5⟩; have hO6 := hO5.grow hb5; clear hO; have hO := hO6; clear hO6 hO5)
      | (with_reducible refine own_row2 (pduC q A5 q.body.length c5) (hO.new2 30 #[.int .i64 0, .int .i64 0, .int .i64 0, .int .u32 0, .int .u32 0, .slice none 0 0, .int .u64 0]) rfl _ _ rfl rfl rfl (pdu_size q A5 q.body.length c5) (by kernel_rfl) (pdu_cells q A5 q.body.length c5) ?_; intro w51 hO51 hz51 hk51; have hB51 := (hB6.alloc _).apart (Blk.new w5 _ _) (by kernel_rfl) hz51 hk51; replace hO := hO51; clear hO51 hz51 hk51)
      | (with_reducible refine own_row1 (pduC q A5 q.body.length c5) hO rfl _ _ rfl rfl rfl (pdu_size q A5 q.body.length c5) (by kernel_rfl) (pdu_cells q A5 q.body.length c5) ?_; intro w52 hO52 hz52 hk52; have hB52 := hB51.apart hO.b1 (by kernel_rfl) hz52 hk52; replace hO := hO52; clear hO52 hz52 hk52))
    exact bodyPost_ret (results_ct Try.results28 _ _ _ _ _ _ rfl rfl hO.b1 Try.underlying30 rfl (pdu_size _ _ _ _)) rfl ⟨q, true, A5, c5, rfl, (fun _ => ⟨hrq, hqb, hB52⟩), hO.below⟩
end Go.Proofs.Ytnngknmmokajgaa
