/- The text that a mark is: m, and the number in digits (the laws' markText). -/
import Derived.Test.YtoagehacllkchaaGreatWgt
import Derived.Laws.IdiomStrings
namespace Go.Proofs.YtoagehacllkchaaGreat
open Go.RowKit

theorem convm (W : World) (b : Nat) (d : UInt8) (hc : W.cell? ⟨b, 0, none⟩ = some (.int .u8 (d.toNat : Int))) :
    (convert 217 9 (.slice (some ⟨b, 0, none⟩) 1 1)).run Tryz.prog W = .ok (.string ⟨#[d]⟩) W := by
  have := run_convert_bytes_back (P := Tryz.prog) W 217 9 5 ⟨b, 0, none⟩ 1 [d] Tryz.underlying217 Tryz.underlying5 Tryz.underlying9 (fun j hj => by
    simp only [List.length_cons, List.length_nil] at hj
    obtain rfl : j = 0 := by omega
    exact hc)
  exact this
def dig1 (k : Nat) : Str := ⟨#[UInt8.ofNat (48 + k % 10)]⟩
def digGo (k : Nat) (o : Str) : Str := if _h : k = 0 then o else digGo (k / 10) (dig1 k ++ o)
termination_by k
decreasing_by exact Nat.div_lt_self (Nat.pos_of_ne_zero _h) (by decide)
def markS (k : Int) : Str := if k ≤ 0 then ⟨#[109, 48]⟩ else (⟨#[109]⟩ : Str) ++ digGo k.toNat ⟨#[]⟩

set_option maxRecDepth 100000 in
set_option maxHeartbeats 1000000 in
theorem markText_ok (k : Int) (w : World) (h1 : k ≤ 1000000000) : Calls Tryz.prog 84 #[.int .i64 k] w (Gives (.string (markS k)) w) := by
  by_cases h0 : k ≤ 0
  · have hV : Hid (markS k = ⟨#[109, 48]⟩) := if_pos h0
    go_enter Tryz.func84, Tryz.ntmps84
    go_wp2
    go_ret
    exact .mk (by rw [hV.out]; rfl) (by exact frc)
  · have hV : Hid (markS k = (⟨#[109]⟩ : Str) ++ digGo k.toNat ⟨#[]⟩) := if_neg h0
    obtain ⟨n, rfl⟩ := Int.eq_ofNat_of_zero_le (show 0 ≤ k by omega)
    go_enter Tryz.func84, Tryz.ntmps84
    go_wp2
    go_loopw [0, 3] (fun i o wr => ∃ (m : Nat) (s : Str), s.size + m ≤ n ∧ i = .int .i64 m ∧ o = .string s ∧ Hid (digGo n ⟨#[]⟩ = digGo m s) ∧ Fr No w wr) (fun i _ _ => (intOf i).toNat)
    case atStart => exact ⟨n, _, by show 0 + n ≤ n; omega, rfl, rfl, rfl, Fr.refl _ _⟩
    case round =>
      obtain ⟨m, s, hm, rfl, rfl, hd, hf⟩ := hrel
      by_cases hlt : 0 < m
      · have hx : (UInt8.ofNat (48 + m % 10)).toNat = 48 + m % 10 := by
          rw [UInt8.toNat_ofNat']
          omega
        have hc2 : ∀ W b, W.cell? ⟨b, 0, none⟩ = some (.int .u8 (48 + (m : Int) % 10)) → (convert 217 9 (.slice (some ⟨b, 0, none⟩) 1 1)).run Tryz.prog W = .ok (.string (dig1 m)) W := fun W b h => convm W b _ (by rw [h, hx]; simp)
        have hz : (dig1 m).size = 1 := rfl
        go_wp2
        go_roundw
        case rel =>
          refine ⟨m / 10, _, ?_, by go_num, rfl, ?_, by exact frc⟩
          · have : (dig1 m ++ s).size = (dig1 m).size + s.size := ByteArray.size_append
            omega
          · show _ = _
            rw [hd.out, digGo, dif_neg (by omega)]
        case measure => simp [intOf]; omega
      · obtain rfl : m = 0 := by omega
        have hv : digGo n ⟨#[]⟩ = s := by rw [hd.out, digGo, dif_pos rfl]
        have hz : (⟨#[109]⟩ : Str).size = 1 := rfl
        go_wp2
        go_ret
        exact .mk (by rw [hV.out, ← hv]; rfl) (by exact frc)
end Go.Proofs.YtoagehacllkchaaGreat
