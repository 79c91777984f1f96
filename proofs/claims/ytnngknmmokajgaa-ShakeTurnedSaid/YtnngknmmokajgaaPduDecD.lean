/- What the program takes bytes for. -/
import Derived.Test.YtnngknmmokajgaaPduDecA
import Derived.Test.YtnngknmmokajgaaPduDecB
import Derived.Test.YtnngknmmokajgaaPduDecC
set_option linter.unusedSimpArgs false
set_option linter.unusedVariables false
namespace Go.Proofs.Ytnngknmmokajgaa
open Go.RowKit Go.Shelf
theorem pdec_k (A : Option Addr) (n c : Nat) (bs : List UInt8) (w : World) (hn : n = bs.length) (hB : Bytes w A c bs) (hlen : bs.length ≤ 2000) :
    Calls Try.prog 48 #[.slice A n c] w fun e w' => ∃ v, e = .returned (.tuple #[v, .int .i64 (if (decI bs).isSome then 0 else 8)]) ∧ IsPdu w.heap.size ((decI bs).getD P7.none_) v w' ∧ Below w.heap.size w w' := by
  subst hn
  by_cases h8 : 8 ≤ bs.length
  · obtain ⟨b, off, rfl, _⟩ := hB.at_ (k := 0) (by omega)
    by_cases h1 : ((nth bs 0).toNat : Int) / 2 = 1
    · exact dec_1 b off c bs w hB hlen h8 h1
    by_cases h16 : bs.length < 16
    · exact dec_s b off c bs w hB hlen h8 h1 h16
    have h16' : 16 ≤ bs.length := by omega
    by_cases h2 : ((nth bs 0).toNat : Int) / 2 = 2
    · exact dec_2 b off c bs w hB hlen h8 h2 h16'
    by_cases h3 : ((nth bs 0).toNat : Int) / 2 = 3
    · exact dec_3 b off c bs w hB hlen h8 h3 h16'
    by_cases h5 : ((nth bs 0).toNat : Int) / 2 = 5
    · exact dec_5 b off c bs w hB hlen h8 h5 h16'
    by_cases h6 : ((nth bs 0).toNat : Int) / 2 = 6
    · exact dec_6 b off c bs w hB hlen h8 h6 h16'
    exact dec_o b off c bs w hB hlen h8 h1 h2 h3 h5 h6 h16'
  · have hd : decI bs = none := by simp [decI, candI, show bs.length < 8 by omega]
    refine (dec_short A c bs w hB (by omega)).mono ?_
    rintro e w' ⟨rfl, hb⟩
    rw [hd]
    exact ⟨_, rfl, ⟨_, rfl, NewBytes.nil⟩, hb⟩
end Go.Proofs.Ytnngknmmokajgaa
