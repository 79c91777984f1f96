/- An end of a connection that came in, opened to the walk's own words; two that are the same, held against each other. -/
import Derived.Test.YtnngknmmokajgaaPduIn
import Derived.Test.YtnngknmmokajgaaShakeMath
import Derived.Test.YtnngknmmokajgaaKeyEq
set_option linter.unusedSimpArgs false
set_option linter.unusedVariables false
namespace Go.Proofs.Ytnngknmmokajgaa
open Go.ChangeShapes Go.WideShapes Go.ChangeAt Go.RowKit Go.Deep

section
variable {H : Type} {enc : TypeId × Value → H} {w : World} {base : Nat} {spare : Nat → Bool}
theorem bool_of_trod {held : Bool} {fuel : Nat} {v : Value} {x : DataW H × List MemPlace} (hf : DataW.trod enc Try.prog w base spare held fuel 4 [v] = some x) : ∃ b : Bool, v = .bool b := by
  obtain ⟨b, e, _⟩ := DataW.trod_bool Try.underlying4 hf
  exact ⟨b, by simpa using e⟩
theorem key_of_trod {held : Bool} {fuel : Nat} {cs : List Value} {x : DataW H × List MemPlace} (hl : cs.length = 4) (hf : DataW.trod enc Try.prog w base spare held fuel 24 cs = some x) : ∃ k : K4, cs = [q32 k.k0, q32 k.k1, q32 k.k2, q32 k.k3] := by
  have hc1 : Try.prog.cellsOf 22 = 1 := by kernel_rfl
  obtain ⟨xs, m, _, _, _, hlen, hg⟩ := DataW.trod_array Try.underlying24 hf
  rw [hc1] at hg
  match cs, hl with
  | [c0, c1, c2, c3], _ =>
  match xs, hlen with
  | [y0, y1, y2, y3], _ =>
    obtain ⟨a, rfl⟩ := trod_q32 (x := y0) (by simpa [Value.cells] using hg 0 (by decide))
    obtain ⟨b, rfl⟩ := trod_q32 (x := y1) (by simpa [Value.cells] using hg 1 (by decide))
    obtain ⟨c, rfl⟩ := trod_q32 (x := y2) (by simpa [Value.cells] using hg 2 (by decide))
    obtain ⟨d, rfl⟩ := trod_q32 (x := y3) (by simpa [Value.cells] using hg 3 (by decide))
    exact ⟨⟨a, b, c, d⟩, rfl⟩
theorem array16 {α : Type} {cs : Array α} (h : cs.size = 16) : ∃ c0 c1 c2 c3 c4 c5 c6 c7 c8 c9 c10 c11 c12 c13 c14 c15, cs = #[c0, c1, c2, c3, c4, c5, c6, c7, c8, c9, c10, c11, c12, c13, c14, c15] := by
  obtain ⟨l⟩ := cs
  match l, h with
  | [c0, c1, c2, c3, c4, c5, c6, c7, c8, c9, c10, c11, c12, c13, c14, c15], _ => exact ⟨c0, c1, c2, c3, c4, c5, c6, c7, c8, c9, c10, c11, c12, c13, c14, c15, rfl⟩
theorem open_peer {r : Reach} {b0 : Nat} {v : Value} {d : DataW H} {p : List MemPlace} {held : Bool} (hv : Value.okWide Try.prog w r b0 26 v) (h : DataW.Trod enc Try.prog w base spare held 26 v d p) :
    ∃ s : Peer10, v = .agg (peerC s) := by
  obtain ⟨cs, rfl, hsz⟩ := okWide_struct Try.underlying26 hv
  have hc16 : Try.prog.cellsOf 26 = 16 := by kernel_rfl
  have c3 : Try.prog.cellsOf 3 = 1 := by kernel_rfl
  have c22 : Try.prog.cellsOf 22 = 1 := by kernel_rfl
  have ck : Try.prog.cellsOf 24 = 4 := by kernel_rfl
  have cb : Try.prog.cellsOf 4 = 1 := by kernel_rfl
  obtain ⟨y0, y1, y2, y3, y4, y5, y6, y7, y8, y9, y10, y11, y12, y13, y14, y15, rfl⟩ := array16 (hsz.trans hc16)
  obtain ⟨fuel, hf⟩ := h
  obtain ⟨xs, n, _, _, _, hlen, hg⟩ := DataW.trod_struct Try.underlying26 hf
  match xs, hlen with
  | [x0, x1, x2, x3, x4, x5, x6, x7, x8, x9], _ =>
    obtain ⟨f0, rfl⟩ := int_of_trod (v := y0) (x := x0) (by simpa [Value.cells, c3] using hg 0 _ rfl)
    obtain ⟨f1, rfl⟩ := int_of_trod (v := y1) (x := x1) (by simpa [Value.cells, c3] using hg 1 _ rfl)
    obtain ⟨k2, e2⟩ := key_of_trod (cs := [y2, y3, y4, y5]) (x := x2) rfl (by simpa [Value.cells, ck] using hg 2 _ rfl)
    injection e2 with ea2 e2
    injection e2 with eb2 e2
    injection e2 with ec2 e2
    injection e2 with ed2 _
    subst ea2 eb2 ec2 ed2
    obtain ⟨f3, rfl⟩ := int_of_trod (v := y6) (x := x3) (by simpa [Value.cells, c3] using hg 3 _ rfl)
    obtain ⟨f4, rfl⟩ := q32_of_trod (v := y7) (x := x4) (by simpa [Value.cells, c22] using hg 4 _ rfl)
    obtain ⟨f5, rfl⟩ := q32_of_trod (v := y8) (x := x5) (by simpa [Value.cells, c22] using hg 5 _ rfl)
    obtain ⟨k6, e6⟩ := key_of_trod (cs := [y9, y10, y11, y12]) (x := x6) rfl (by simpa [Value.cells, ck] using hg 6 _ rfl)
    injection e6 with ea6 e6
    injection e6 with eb6 e6
    injection e6 with ec6 e6
    injection e6 with ed6 _
    subst ea6 eb6 ec6 ed6
    obtain ⟨f7, rfl⟩ := bool_of_trod (v := y13) (x := x7) (by simpa [Value.cells, cb] using hg 7 _ rfl)
    obtain ⟨f8, rfl⟩ := q32_of_trod (v := y14) (x := x8) (by simpa [Value.cells, c22] using hg 8 _ rfl)
    obtain ⟨f9, rfl⟩ := q32_of_trod (v := y15) (x := x9) (by simpa [Value.cells, c22] using hg 9 _ rfl)
    exact ⟨⟨f0, f1, k2, f3, f4, f5, k6, f7, f8, f9⟩, rfl⟩
end
theorem eqFields_same {P : Program} (d : Nat) (xs : Array Value) (w : World) : ∀ fs : List Field, (∀ f, f ∈ fs → ∃ v, (part f.type xs f.offset).run P w = .ok v w ∧ (Op.equalIn d f.type v v).run P w = .ok true w) → (Op.eqFields d xs xs fs).run P w = .ok true w
  | [], _ => by simp [Op.eqFields]
  | f :: fs, h => by
    obtain ⟨v, h1, h2⟩ := h f (by simp)
    have ih := eqFields_same d xs w fs (fun g hg => h g (by simp [hg]))
    simp only [Op.eqFields, Sem.run_ite, Sem.run_bind, h1, h2, Result.andThen_ok, Bool.not_true, Bool.false_eq_true, if_false, ih]
    split <;> rfl
theorem eq_key_in (d : Nat) (k : K4) (w : World) : (Op.equalIn (d + 1 + 1) 24 (.agg #[q32 k.k0, q32 k.k1, q32 k.k2, q32 k.k3]) (.agg #[q32 k.k0, q32 k.k1, q32 k.k2, q32 k.k3])).run Try.prog w = .ok true w := by
  obtain ⟨i, hi⟩ := info_of_underlying Try.underlying22
  rw [run_equalIn_array w (d + 1) _ _ Try.underlying24 hi, show Try.prog.cellsOf 22 = 1 by kernel_rfl]
  rw [eqItems_cells (d + 1) _ _ notAgg_u32 (fun i => q32 (keyAt k i)) (fun i => q32 (keyAt k i)) (fun _ => true) w _ (fun i hi => by
    refine ⟨?_, ?_, ?_⟩
    · match i, hi with
      | 0, _ | 1, _ | 2, _ | 3, _ => rfl
    · match i, hi with
      | 0, _ | 1, _ | 2, _ | 3, _ => rfl
    · rw [q32_equalIn 22 _ _ w d .u32 Try.underlying22]
      simp)]
  simp
theorem run_neq_key (k : K4) (w : World) : (binOp .neq 24 (.agg #[q32 k.k0, q32 k.k1, q32 k.k2, q32 k.k3]) (.agg #[q32 k.k0, q32 k.k1, q32 k.k2, q32 k.k3])).run Try.prog w = .ok (.bool false) w := by
  rw [run_neq_struct, eq_key_in 9998 k w]
  rfl
theorem run_eql_peer (p : Peer10) (w : World) : (binOp .eql 26 (.agg (peerC p)) (.agg (peerC p))).run Try.prog w = .ok (.bool true) w := by
  have hu : Try.prog.underlying 26 = some (.struct (Try.prog.fieldsOf 26)) := by rw [Program.fieldsOf, Try.underlying26]
  rw [run_eql_struct, run_equalIn_struct w 9999 26 _ _ hu (by kernel_rfl), eqFields_same 9999 (peerC p) w]
  · rfl
  · intro f hf
    rw [Program.fieldsOf, Try.underlying26] at hf
    simp only [List.mem_cons, List.not_mem_nil, or_false] at hf
    rcases hf with rfl | rfl | rfl | rfl | rfl | rfl | rfl | rfl | rfl | rfl
    · exact ⟨.int .i64 p.side, by kernel_rfl, by rw [run_equalIn_int w 9998 3 .i64 .i64 _ _ Try.underlying3]; simp⟩
    · exact ⟨.int .i64 p.train, by kernel_rfl, by rw [run_equalIn_int w 9998 3 .i64 .i64 _ _ Try.underlying3]; simp⟩
    · exact ⟨.agg #[q32 p.base.k0, q32 p.base.k1, q32 p.base.k2, q32 p.base.k3], by kernel_rfl, eq_key_in 9997 p.base w⟩
    · exact ⟨.int .i64 p.state, by kernel_rfl, by rw [run_equalIn_int w 9998 3 .i64 .i64 _ _ Try.underlying3]; simp⟩
    · exact ⟨q32 p.a, by kernel_rfl, by rw [q32_equalIn 22 _ _ w 9998 .u32 Try.underlying22]; simp⟩
    · exact ⟨q32 p.b, by kernel_rfl, by rw [q32_equalIn 22 _ _ w 9998 .u32 Try.underlying22]; simp⟩
    · exact ⟨.agg #[q32 p.key.k0, q32 p.key.k1, q32 p.key.k2, q32 p.key.k3], by kernel_rfl, eq_key_in 9997 p.key w⟩
    · exact ⟨.bool p.half, by kernel_rfl, by rw [run_equalIn_bool' w 9998 4 _ _ Try.underlying4]; simp⟩
    · exact ⟨q32 p.a2, by kernel_rfl, by rw [q32_equalIn 22 _ _ w 9998 .u32 Try.underlying22]; simp⟩
    · exact ⟨q32 p.b2, by kernel_rfl, by rw [q32_equalIn 22 _ _ w 9998 .u32 Try.underlying22]; simp⟩
end Go.Proofs.Ytnngknmmokajgaa
