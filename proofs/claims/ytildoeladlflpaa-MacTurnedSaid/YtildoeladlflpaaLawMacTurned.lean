/- MacTurned: bytes that are turned within one block of eight have another seal. -/
import Derived.StillTailTactics
import Derived.Test.YtildoeladlflpaaAwake8
import Derived.Test.YtildoeladlflpaaBytesIn
import Derived.Test.YtildoeladlflpaaBytesStr
import Derived.Test.YtildoeladlflpaaKin
import Derived.Test.YtildoeladlflpaaBytesOwn
namespace Go.Proofs.Ytildoeladlflpaa
open Go.ChangeShapes Go.WideShapes Go.ChangeAt Go.RowKit
open Go.ChangeMaps (open_string shut_string)

/-- As they were, but within one block. -/
def Near (bs : List UInt8) (j : Nat) (cs : List UInt8) : Prop := cs.length = bs.length ∧ ∀ i, i / 8 ≠ j → nth cs i = nth bs i
theorem Near.refl (bs : List UInt8) (j : Nat) : Near bs j bs := ⟨rfl, fun _ _ => rfl⟩
theorem Near.set {bs : List UInt8} {j : Nat} {cs : List UInt8} (h : Near bs j cs) (k : Nat) (hk : k / 8 = j) (x : UInt8) : Near bs j (cs.set k x) := by
  refine ⟨by simpa using h.1, fun i hi => ?_⟩
  have hne : k ≠ i := by intro e; subst e; exact hi hk
  have e : nth (cs.set k x) i = nth cs i := by
    unfold nth
    rw [List.getD_eq_getElem?_getD, List.getD_eq_getElem?_getD, List.getElem?_set_ne hne]
  rw [e]
  exact h.2 i hi
theorem near_law (k : K4) {bs cs : List UInt8} {j : Nat} (h : Near bs j cs) : ((Mac k cs == Mac k bs) == (cs == bs)) = true := by
  have h1 := mac_turned k cs bs h.1 j h.2
  have h2 : (Mac k cs == Mac k bs) = (cs == bs) := by rw [Bool.eq_iff_iff]; simpa using h1
  rw [h2]; simp
theorem i64_fit (n : Int) (h0 : -9223372036854775808 ≤ n) (h1 : n ≤ 9223372036854775807) : IntKind.i64.wrap n = n := by rw [IntKind.wrap_i64]; omega
theorem mac_n (k : K4) (A : Option Addr) (n c : Nat) (bs : List UInt8) (w : World) (hn : n = bs.length) (hb : Bytes w A c bs) (hlen : bs.length ≤ 65536) :
    Calls Try.prog 9 #[.agg #[q32 k.k0, q32 k.k1, q32 k.k2, q32 k.k3], .slice A n c] w fun e w' => e = .returned (q64 (Mac k bs)) ∧ Below w.heap.size w w' := by
  subst hn
  exact mac_k k A c bs w hb hlen
set_option maxHeartbeats 2000000 in
theorem macTurned_walk (k : K4) (v : Value) (bs : List UInt8) (block : Int) (h1 : -9223372036854775808 ≤ block) (h2 : block ≤ 9223372036854775807) (v' : Value) (by_ : List UInt8) (w : World) (hv : IsBytes bs v w) (hv' : IsBytes by_ v' w) :
    Calls Try.prog 4 #[.agg #[q32 k.k0, q32 k.k1, q32 k.k2, q32 k.k3], v, .int .i64 block, v'] w fun e w' => e = .returned (.bool true) ∧ Below w.heap.size w w' := by
  obtain ⟨A, c, rfl, hB⟩ := hv
  obtain ⟨A', c', rfl, hB'⟩ := hv'
  have hl := hB.len_le
  have hl' := hB'.len_le
  go_enter Try.func4, Try.ntmps4
  go_wp2_with (first
    | (go_at_call 8; (with_reducible refine (awake8_any _).mono ?_); rintro e w1 ⟨rfl, hb⟩; obtain ⟨hc, _⟩ := bcell hb; have hz : w.heap.size < w1.heap.size := by have := hb.size; simp at this; omega)
    | (at_builtin; refine wpList_app_bytes rfl (.const (.slice none 0 0)) (.tmp 32) rfl w1.heap.size none 0 [] 0 rfl rfl (OwnB.nil _ _) A c bs bs.length rfl rfl (hB.below (below_of_alloc hb)) (by simp; omega) (Nat.le_refl _) ?_; intro A2 c2 W ho hgr hbW))
  all_goals have hb0 := below_of_alloc hb
  · go_ret
    exact ⟨rfl, hb0⟩
  · obtain ⟨m, rfl⟩ : ∃ m : Nat, block = m := ⟨block.toNat, by omega⟩
    have hm : m ≤ bs.length / 8 := by omega
    have hbs : bs.length ≤ 2000 := by omega
    have hB1 := hB.below hb0
    have hB1' := hB'.below hb0
    go_loopw [11] (fun i wr => ∃ (j : Nat) (cs : List UInt8), j ≤ 8 ∧ i = .int .i64 j ∧ Near bs m cs ∧ OwnB wr w1.heap.size A2 c2 cs ∧ Below w1.heap.size w1 wr) (fun i _ => 8 - (intOf i).toNat)
    case atStart => exact ⟨0, bs, by omega, rfl, Near.refl _ _, by simpa using ho, hbW⟩
    case round =>
      obtain ⟨j, cs, hj, rfl, hN, hO, hBr⟩ := hrel
      have hcl := hN.1
      by_cases hlt : j < 8
      · by_cases hlb : j < by_.length
        · by_cases hin : 8 * m + j < bs.length
          · obtain ⟨g, rfl, hg1, hg2⟩ := hO.addr (by omega)
            obtain ⟨b0, off0, rfl, hlt0, hcc0⟩ := hB1'.at_ hlb
            have hcx := (hBr.cell (p := ⟨b0, off0 + j, none⟩) hlt0).trans hcc0
            obtain ⟨_, _, e, _, hcy⟩ := hO.bytes.at_ (k := 8 * m + j) (by omega)
            injection e with e
            injection e with e1 e2
            subst e1; subst e2
            rw [Nat.zero_add] at hcy
            obtain ⟨p, hp⟩ : ∃ p : Nat, p = 8 * m + j := ⟨_, rfl⟩
            have hp' : 8 * (m : Int) + j = p := by omega
            have hp2 : p < bs.length := by omega
            rw [← hp] at hcy
            clear hp
            go_wp2_with fail
            have hp3 : (p : Int) < bs.length := by omega
            have hj3 : (j : Int) < by_.length := by omega
            have hfz := World.ownsRow.frozenAt hO p
            have hw1 := i64_fit (8 * (m : Int)) (by omega) (by omega)
            have hw2 := i64_fit (p : Int) (by omega) (by omega)
            go_still_tail 18, (by kernel_rfl)
            go_wp2
            exact ⟨⟨j + 1, cs.set p (nth cs p ^^^ nth by_ j), by omega, by go_num, hN.set p (by omega) _, (hO.stored p _).drew, below_drewN (hBr.setCell (p := ⟨g, p, none⟩) hg1 _) 1⟩, by simp [intOf]; omega⟩
          · go_wp2_with fail
            exact ⟨⟨j + 1, cs, by omega, by go_num, hN, hO, hBr⟩, by simp [intOf]; omega⟩
        · have hL := near_law k hN
          obtain ⟨hcr, _⟩ := bcell hBr
          have hzr := hBr.size
          have hz2 : w.heap.size < wr.heap.size := by omega
          have hBr1 := hB1.below hBr
          have hOb := hO.bytes
          go_wp2_with fail
          refine wp_region_kin (by kernel_rfl) (by kernel_rfl) ?_
          repeat (first
            | (go_big_quiet_want; (with_reducible refine quiet_bytes_string (.tmp 76) rfl A2 bs.length c2 cs rfl hcl.symm hOb ?_); go_big_quiet_on; simp only [Act.put, List.setIfInBounds_toArray, List.set_cons_zero, List.set_cons_succ])
            | (go_big_quiet_want; (with_reducible refine quiet_bytes_string (.tmp 78) rfl A bs.length c bs rfl rfl hBr1 ?_); go_big_quiet_on; simp only [Act.put, List.setIfInBounds_toArray, List.set_cons_zero, List.set_cons_succ])
            | (go_big_quiet_step ((first | (go_at_call 9; (with_reducible refine kin_call (mac_n k A2 bs.length c2 cs _ hcl.symm (hOb.below (Kin.below _)) (by omega)))) | (go_at_call 9; (with_reducible refine kin_call (mac_n k A bs.length c bs _ rfl (hBr1.below (Kin.below _)) (by omega))))))))
          refine wpQuiet_nil ?_
          intro W2 hW
          replace hW := kin_out hW
          go_wp2
          go_ret
          exact ⟨rfl, below_then hb0 (below_then hBr hW)⟩
      · obtain rfl : j = 8 := by omega
        have hL := near_law k hN
        obtain ⟨hcr, _⟩ := bcell hBr
        have hzr := hBr.size
        have hz2 : w.heap.size < wr.heap.size := by omega
        have hBr1 := hB1.below hBr
        have hOb := hO.bytes
        go_wp2_with fail
        refine wp_region_kin (by kernel_rfl) (by kernel_rfl) ?_
        repeat (first
          | (go_big_quiet_want; (with_reducible refine quiet_bytes_string (.tmp 76) rfl A2 bs.length c2 cs rfl hcl.symm hOb ?_); go_big_quiet_on; simp only [Act.put, List.setIfInBounds_toArray, List.set_cons_zero, List.set_cons_succ])
          | (go_big_quiet_want; (with_reducible refine quiet_bytes_string (.tmp 78) rfl A bs.length c bs rfl rfl hBr1 ?_); go_big_quiet_on; simp only [Act.put, List.setIfInBounds_toArray, List.set_cons_zero, List.set_cons_succ])
          | (go_big_quiet_step ((first | (go_at_call 9; (with_reducible refine kin_call (mac_n k A2 bs.length c2 cs _ hcl.symm (hOb.below (Kin.below _)) (by omega)))) | (go_at_call 9; (with_reducible refine kin_call (mac_n k A bs.length c bs _ rfl (hBr1.below (Kin.below _)) (by omega))))))))
        refine wpQuiet_nil ?_
        intro W2 hW
        replace hW := kin_out hW
        go_wp2
        go_ret
        exact ⟨rfl, below_then hb0 (below_then hBr hW)⟩
  all_goals
    go_ret
    exact ⟨rfl, hb0⟩

set_option maxRecDepth 100000 in
theorem macTurned_lifted (os : Os) (started : os.Started) (H : Type) (enc : TypeId × Value → H) :
    ReturnsInHanded {} Try.checked os 4 .any (Rows.macTurnedSpec.pre6 enc Try.prog Try.f4 Rows.macTurnedRow.domain false) (Rows.macTurnedSpec.post enc Try.prog Try.f4 false true false false) := by
  refine returnsInHanded_of_change (C := Try.checked) own started (by kernel_rfl) Try.func4
    (ChangeSpec.witness6 (enc := enc) (C := Try.checked) false ⟨#[], #[.agg #[.int .u32 0, .int .u32 0, .int .u32 0, .int .u32 0], .slice none 0 0, .int .i64 0, .slice none 0 0], []⟩ 8 (by kernel_rfl) (by kernel_rfl) (by kernel_rfl) (by kernel_rfl)) ?_
  intro W base args ds gs before hval0 hW hcnd _
  have hval : ∀ (j : Nat) t v, Try.f4.params[j]? = some t → args[j]? = some v → Value.okWide Try.prog W .any base t v := hval0
  have hW' := hW
  obtain ⟨p, q, hA0, hV, rfl, hfz, hnd⟩ := hW
  have hA : DataW.TrodAll enc Try.prog W 0 (fun _ => true) true Try.f4.params.toList args.toList ds p := hA0
  rw [Try.params4] at hA hval
  obtain ⟨v0, vs0, d0, ds0, p0, q0, hargs, rfl, rfl, h0, r0⟩ := trodAll_cons hA
  obtain ⟨v1, vs1, d1, ds1, p1, q1, rfl, rfl, rfl, h1, r1⟩ := trodAll_cons r0
  obtain ⟨v2, vs2, d2, ds2, p2, q2, rfl, rfl, rfl, h2, r2⟩ := trodAll_cons r1
  obtain ⟨v3, vs3, d3, ds3, p3, q3, rfl, rfl, rfl, h3, r3⟩ := trodAll_cons r2
  obtain ⟨rfl, rfl, rfl⟩ := trodAll_nil r3
  obtain rfl : args = #[v0, v1, v2, v3] := by cases args; simp_all
  obtain ⟨rfl, rfl⟩ := trodVars_none hV
  have k0 := h0
  have lt0 : ∀ x ∈ p0, x.block < W.heap.size := by obtain ⟨m, hm⟩ := k0; exact DataW.trod_lt m _ _ _ hm
  have k1 := h1
  have lt1 : ∀ x ∈ p1, x.block < W.heap.size := by obtain ⟨m, hm⟩ := k1; exact DataW.trod_lt m _ _ _ hm
  have k2 := h2
  have lt2 : ∀ x ∈ p2, x.block < W.heap.size := by obtain ⟨m, hm⟩ := k2; exact DataW.trod_lt m _ _ _ hm
  have k3 := h3
  have lt3 : ∀ x ∈ p3, x.block < W.heap.size := by obtain ⟨m, hm⟩ := k3; exact DataW.trod_lt m _ _ _ hm
  obtain ⟨a0, rfl⟩ := open_key (hval 0 24 v0 rfl rfl) h0
  obtain ⟨s1, b1⟩ := open_bytes (hval 1 25 v1 rfl rfl) h1
  obtain ⟨a2, rfl, _, _, w2⟩ := open_int Try.underlying3 (hval 2 3 v2 rfl rfl) h2
  obtain ⟨s3, b3⟩ := open_bytes (hval 3 25 v3 rfl rfl) h3
  clear hA0 hval0
  refine (macTurned_walk a0 v1 s1 a2 (bounds_i64 w2).1 (bounds_i64 w2).2 v3 s3 W b1 b3).mono fun e W' ⟨he, bel⟩ => ?_
  subst he
  exact ⟨_, rfl, _, _, _, [], _, [], hW', trodAll_mk1 (shut_bool Try.underlying4 _), (trodAll_cons_mk (Below.trod laidOut (by kernel_rfl) (of_decide_eq_true (by kernel_rfl)) k0 bel lt0) (trodAll_cons_mk (Below.trod laidOut (by kernel_rfl) (of_decide_eq_true (by kernel_rfl)) k1 bel lt1) (trodAll_cons_mk (Below.trod laidOut (by kernel_rfl) (of_decide_eq_true (by kernel_rfl)) k2 bel lt2) (trodAll_cons_mk (Below.trod laidOut (by kernel_rfl) (of_decide_eq_true (by kernel_rfl)) k3 bel lt3) trodAll_mk0)))), rfl, bel.frame _, fun h => by cases h⟩

theorem macTurned_over : Rows.macTurnedRow.holds Try.pinned (OpenSpec.ofChange Rows.macTurnedSpec) :=
  OpenClaim.holds_of_wide 4 Try.f4 rfl rfl rfl rfl rfl rfl rfl ⟨rfl, rfl, rfl, rfl, rfl⟩ rfl rfl rfl rfl rfl (by kernel_rfl) Try.func4 (by kernel_rfl)
    (of_decide_eq_true (by kernel_rfl)) (by unfold Func.isWrapper; rw [if_neg (of_decide_eq_false (by kernel_rfl))]; exact ⟨rfl, rfl⟩)
    (fun os started H enc _ => macTurned_lifted os started H enc)

/-- THE STATEMENT. -/
theorem macTurned_holds : Rows.MacTurnedSaid := macTurned_over
end Go.Proofs.Ytildoeladlflpaa
