/- Two keys held against each other. -/
import Derived.Test.YtnngknmmokajgaaCipher
namespace Go.Proofs.Ytnngknmmokajgaa
open Go.RowKit
def keyAt (k : K4) : Nat → BitVec 32
  | 0 => k.k0
  | 1 => k.k1
  | 2 => k.k2
  | _ => k.k3
theorem eqGuard_key : Try.prog.eqGuardType Try.prog.depth 24 = false := by kernel_rfl
theorem run_eql_key (k k' : K4) (w : World) : (binOp .eql 24 (.agg #[q32 k.k0, q32 k.k1, q32 k.k2, q32 k.k3]) (.agg #[q32 k'.k0, q32 k'.k1, q32 k'.k2, q32 k'.k3])).run Try.prog w = .ok (.bool (decide (k = k'))) w := by
  obtain ⟨i, hi⟩ := info_of_underlying Try.underlying22
  have h := run_eql_row (P := Try.prog) #[q32 k.k0, q32 k.k1, q32 k.k2, q32 k.k3] #[q32 k'.k0, q32 k'.k1, q32 k'.k2, q32 k'.k3] Try.underlying24 hi (by kernel_rfl) notAgg_u32 (fun i => q32 (keyAt k i)) (fun i => q32 (keyAt k' i)) (fun i => keyAt k i == keyAt k' i) w
    (fun i hi => by
      refine ⟨?_, ?_, q32_equalIn 22 _ _ w 9998 .u32 Try.underlying22⟩
      · match i, hi with
        | 0, _ | 1, _ | 2, _ | 3, _ => rfl
      · match i, hi with
        | 0, _ | 1, _ | 2, _ | 3, _ => rfl)
  rw [h]
  have e : (List.range 4).all (fun i => keyAt k i == keyAt k' i) = decide (k = k') := by
    obtain ⟨a, b, c, d⟩ := k
    obtain ⟨a', b', c', d'⟩ := k'
    rw [Bool.eq_iff_iff]
    simp [List.range, List.range.loop, keyAt, K4.mk.injEq]
  rw [e]
end Go.Proofs.Ytnngknmmokajgaa
