/- The chapter's example is as it is told. -/
import Derived.Test.YtnngknmmokajgaaShakeBoth
import Derived.Test.YtnngknmmokajgaaShakeTake
import Derived.Test.YtnngknmmokajgaaShakeData
import Derived.Test.YtnngknmmokajgaaOwnLaw
import Derived.Test.YtnngknmmokajgaaKeyEq
namespace Go.Proofs.Ytnngknmmokajgaa
open Go.RowKit Go.Shelf

def exB : K4 := ⟨1, 2, 3, 4⟩
def exX : Peer10 := endX exB 5 7 9
def exY : Peer10 := endY exB 5 7 9
theorem exX_up : IsUp exX 5 9 (Derive exB 7 9) := endX_up _ _ _ _
theorem exY_up : IsUp exY 5 9 (Derive exB 7 9) := endY_up _ _ _ _
def exD : P7 := sent7 (Derive exB 7 9) 0 5 9 [1, 2]
theorem own_key {P : Program} {ops : Array Oper} {rest : List Oper} {o : Oper} {a : Act} {W : World} {Q : Exit → Act → World → Prop} {g : Nat} {t ty : TypeId} {p : Peer10} (hB : Blk W g t (peerC p)) (hw : Region.wanted o (yielded ops a.tmps) = true) (x : Operand) (ho : o.op = .load ty x) (hx : a.eval x = .pointer (some ⟨g, 9, none⟩)) (d : TypeDesc)
    (hu : P.underlying ty = some d) (hd : d.isRow = true) (hi : (P.info? ty).map (·.size) = some 4)
    (h : wpList P ops Q rest (a.put o.dst (.agg #[q32 p.key.k0, q32 p.key.k1, q32 p.key.k2, q32 p.key.k3])) W) : wpList P ops Q (o :: rest) a W := by
  refine wpList_want hw fun K hK => wp_load_mid ty x ho g 9 hx [q32 p.key.k0, q32 p.key.k1, q32 p.key.k2, q32 p.key.k3] d ?_ hu hd hi (hK _ _ h)
  intro j v hv
  rw [hB.cell]
  match j, hv with
  | 0, hv | 1, hv | 2, hv | 3, hv => exact hv
theorem two_bytes {w : World} {g : Nat} (h : Blk w g 5 #[.int .u8 1, .int .u8 2]) : Bytes w (some ⟨g, 0, none⟩) 2 [1, 2] := ⟨Row.block (cs := #[q8 1, q8 2]) h, Nat.le_refl _, by decide⟩
theorem pdu_no8 (q : P7) (A : Option Addr) (n c : Nat) : (pduC q A n c).all (fun v => !is8 v) = true := by kernel_rfl
theorem peer_no8 (p : Peer10) : (peerC p).all (fun v => !is8 v) = true := by kernel_rfl
set_option maxHeartbeats 8000000 in
theorem awake10_any (w : World) : Calls Try.prog 9 #[] w fun e w' => e = .returned (.bool true) ∧ Below w.heap.size w w' := by
  have hbo : ∀ W, Calls Try.prog 19 #[.agg #[.int .u32 1, .int .u32 2, .int .u32 3, .int .u32 4], .int .i64 5, .int .u32 7, .int .u32 9] W fun e w' => e = .returned (.tuple #[.agg (peerC exX), .agg (peerC exY), .bool true]) ∧ Below W.heap.size W w' := fun W => both_k exB 5 7 9 W (by decide) (by decide)
  have hda : ∀ W A, Bytes W A 2 [1, 2] → Calls Try.prog 20 #[.agg (peerC exX), .slice A 2 2] W fun e w' => ∃ A c, e = .returned (.tuple #[.agg (pduC exD A 2 c), .int .i64 0]) ∧ Bytes w' A c [1, 2] ∧ Below W.heap.size W w' := fun W A h => by
    obtain ⟨e1, e2⟩ := data_up exX_up (by decide) (by decide) [1, 2] (by decide) (by decide)
    have := shdata_k exX [1, 2] A 2 2 W rfl h (by decide)
    rw [e1, e2] at this
    exact this
  have hta : ∀ W A c, Bytes W A c [1, 2] → Calls Try.prog 21 #[.agg (peerC exY), .agg (pduC exD A 2 c)] W fun e w' => ∃ A c, e = .returned (.tuple #[.slice A 2 c, .int .i64 0]) ∧ Bytes w' A c [1, 2] ∧ Below W.heap.size W w' := fun W A c h => by
    obtain ⟨e1, e2⟩ := take_same exY_up (by decide) (by decide) 0 (by decide) (by decide) (by decide) [1, 2] (by decide) (by decide)
    have := shtake_k exY exD A 2 c W rfl h (by decide)
    rw [show taken10 exY exD 5 = 0 from e1] at this
    refine this.mono ?_
    rintro e w' ⟨v, rfl, hv, hb⟩
    rw [show takeB exY exD = [1, 2] from e2] at hv
    obtain ⟨A', c', rfl, hB⟩ := hv
    exact ⟨A', c', rfl, hB, hb⟩
  go_enter Try.func9, Try.ntmps9
  go_wp2_with (first
    | (go_at_call 19; (with_reducible refine (hbo _).mono ?_); rintro e w1 ⟨rfl, hb1⟩; have hO : Own w w1 [] := (Own.nil w).grow hb1)
    | (with_reducible refine own_row0 (peerC exX) (hO.two0 26 26 #[.int .i64 0, .int .i64 0, .int .u32 0, .int .u32 0, .int .u32 0, .int .u32 0, .int .i64 0, .int .u32 0, .int .u32 0, .int .u32 0, .int .u32 0, .int .u32 0, .int .u32 0, .bool false, .int .u32 0, .int .u32 0] #[.int .i64 0, .int .i64 0, .int .u32 0, .int .u32 0, .int .u32 0, .int .u32 0, .int .i64 0, .int .u32 0, .int .u32 0, .int .u32 0, .int .u32 0, .int .u32 0, .int .u32 0, .bool false, .int .u32 0, .int .u32 0]) rfl _ _ rfl rfl rfl (peer_size exX) (by kernel_rfl) (peer_cells exX) ?_; intro w11 hO11 hz11 hk11; replace hO := hO11; clear hO11 hz11 hk11)
    | (with_reducible refine own_row1 (peerC exY) hO rfl _ _ rfl rfl rfl (peer_size exY) (by kernel_rfl) (peer_cells exY) ?_; intro w12 hO12 hz12 hk12; replace hO := hO12; clear hO12 hz12 hk12)
    | ((with_reducible refine own_loadg0 hO ?_ _ rfl rfl _ Try.underlying26 rfl (peer_size _) ?_); (· first | rfl | (simp [Region.wanted, yielded]; done)))
    | ((with_reducible refine own_loadg1 hO ?_ _ rfl rfl _ Try.underlying26 rfl (peer_size _) ?_); (· first | rfl | (simp [Region.wanted, yielded]; done)))
    | ((with_reducible refine own_key hO.b0 ?_ _ rfl rfl _ Try.underlying24 rfl (by kernel_rfl) ?_); (· first | rfl | (simp [Region.wanted, yielded]; done)))
    | ((with_reducible refine own_key hO.b1 ?_ _ rfl rfl _ Try.underlying24 rfl (by kernel_rfl) ?_); (· first | rfl | (simp [Region.wanted, yielded]; done)))
    | (go_at_call 20; (with_reducible refine (hda _ _ (two_bytes (Blk.new _ _ _))).mono ?_); rintro e w2 ⟨A2, c2, rfl, hB2, hb2⟩; have hO2 := (hO.new2 5 #[.int .u8 1, .int .u8 2]).grow hb2; clear hO; have hO := hO2; clear hO2)
    | (with_reducible refine own_row3 (pduC exD A2 2 c2) (hO.new3 30 #[.int .i64 0, .int .i64 0, .int .i64 0, .int .u32 0, .int .u32 0, .slice none 0 0, .int .u64 0]) rfl _ _ rfl rfl rfl (pdu_size exD A2 2 c2) (by kernel_rfl) (pdu_cells exD A2 2 c2) ?_; intro w21 hO21 hz21 hk21; have hB21 := (hB2.alloc _).apart (Blk.new w2 _ _) (by kernel_rfl) hz21 hk21; replace hO := hO21; clear hO21 hz21 hk21)
    | ((with_reducible refine own_loadg3 hO ?_ _ rfl rfl _ Try.underlying30 rfl (pdu_size _ _ _ _) ?_); (· first | rfl | (simp [Region.wanted, yielded]; done)))
    | (go_at_call 21; (with_reducible refine (hta _ A2 c2 hB21).mono ?_); rintro e w3 ⟨A3, c3, rfl, hB3, hb3⟩; replace hO := hO.grow hb3; go_loud (have f06 : w3.cell? ⟨w1.heap.size, 6, none⟩ = some (.int .i64 2) := (hO.b0.cell 6).trans rfl; have f07 : w3.cell? ⟨w1.heap.size, 7, none⟩ = some (.int .u32 7) := (hO.b0.cell 7).trans rfl; have f08 : w3.cell? ⟨w1.heap.size, 8, none⟩ = some (.int .u32 9) := (hO.b0.cell 8).trans rfl; have f16 : w3.cell? ⟨w1.heap.size + 1, 6, none⟩ = some (.int .i64 2) := (hO.b1.cell 6).trans rfl; have f17 : w3.cell? ⟨w1.heap.size + 1, 7, none⟩ = some (.int .u32 7) := (hO.b1.cell 7).trans rfl; have f18 : w3.cell? ⟨w1.heap.size + 1, 8, none⟩ = some (.int .u32 9) := (hO.b1.cell 8).trans rfl; have e1 : ∀ W : World, (binOp .eql 24 (.agg #[q32 exX.key.k0, q32 exX.key.k1, q32 exX.key.k2, q32 exX.key.k3]) (.agg #[q32 exY.key.k0, q32 exY.key.k1, q32 exY.key.k2, q32 exY.key.k3])).run Try.prog W = .ok (.bool true) W := fun W => (run_eql_key exX.key exY.key W).trans (by rw [decide_eq_true (show exX.key = exY.key from rfl)]); have s1 : (convert 27 9 (.slice A3 2 c3)).run Try.prog w3 = .ok (.string ⟨#[1, 2]⟩) w3 := run_bytes_string hB3)))
  go_ret
  exact ⟨rfl, hO.below⟩
end Go.Proofs.Ytnngknmmokajgaa
