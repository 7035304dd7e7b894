/- Words and their four bytes; SameBytes of the reference on two equal rows of bytes. Conditions: bytes are bytes, words are words. -/
import Derived.Test.YtdbeeblicpdphaaL4
import Derived.Laws.BytesArg
namespace Go.Proofs.Ytdbeeblicpdphaa
open Go.RowKit
theorem wraps_u32 (n : Int) (h₀ : 0 ≤ n) (h₁ : n < 2 ^ 32) : IntKind.u32.wrap n = n := by rw [IntKind.wrap_u32]; omega
theorem or_comm32 (x y : Int) (hx0 : 0 ≤ x) (hx : x < 4294967296) (hy0 : 0 ≤ y) (hy : y < 4294967296) : bits .or .u32 x y = bits .or .u32 y x := by
  obtain ⟨a, rfl⟩ := Int.eq_ofNat_of_zero_le hx0
  obtain ⟨b, rfl⟩ := Int.eq_ofNat_of_zero_le hy0
  have ha : a < 2 ^ 32 := by omega
  have hb : b < 2 ^ 32 := by omega
  rw [(bits_nat .u32 32 (by decide) wraps_u32 a b ha hb).2, (bits_nat .u32 32 (by decide) wraps_u32 b a hb ha).2, Nat.or_comm]
theorem join32 (i : Nat) (x y : Int) (hx0 : 0 ≤ x) (hx : x < 2 ^ i) (hx1 : x < 4294967296) (hy0 : 0 ≤ y) (hy : y % 2 ^ i = 0) (hy1 : y < 4294967296) : bits .or .u32 x y = x + y := by
  rw [or_comm32 x y hx0 hx1 hy0 hy1, Int.add_comm x y]
  exact bits_join .u32 32 (by decide) wraps_u32 i y x hy0 hy (by omega) hx0 hx (by omega)
theorem wd_sum (a b c d : Int) (ha : 0 ≤ a ∧ a ≤ 255) (hb : 0 ≤ b ∧ b ≤ 255) (hc : 0 ≤ c ∧ c ≤ 255) (hd : 0 ≤ d ∧ d ≤ 255) : wd a b c d = a + 256 * b + 65536 * c + 16777216 * d := by
  have e1 : a % 4294967296 = a := by omega
  have e2 : b % 4294967296 * 256 % 4294967296 = 256 * b := by omega
  have e3 : c % 4294967296 * 65536 % 4294967296 = 65536 * c := by omega
  have e4 : d % 4294967296 * 16777216 % 4294967296 = 16777216 * d := by omega
  unfold wd
  rw [e1, e2, e3, e4, join32 0 0 a (by omega) (by decide) (by omega) (by omega) (by omega) (by omega), Int.zero_add,
    join32 8 a (256 * b) (by omega) (by omega) (by omega) (by omega) (by omega) (by omega),
    join32 16 (a + 256 * b) (65536 * c) (by omega) (by omega) (by omega) (by omega) (by omega) (by omega),
    join32 24 (a + 256 * b + 65536 * c) (16777216 * d) (by omega) (by omega) (by omega) (by omega) (by omega) (by omega)]
theorem wd_of (a : Int) (h0 : 0 ≤ a) (h1 : a < 4294967296) : wd (a % 256) (a / 256 % 256) (a / 65536 % 256) (a / 16777216 % 256) = a := by
  rw [wd_sum _ _ _ _ (by omega) (by omega) (by omega) (by omega)]
  omega
theorem by4_wd (a b c d : Int) (ha : 0 ≤ a ∧ a ≤ 255) (hb : 0 ≤ b ∧ b ≤ 255) (hc : 0 ≤ c ∧ c ≤ 255) (hd : 0 ≤ d ∧ d ≤ 255) : by4 (wd a b c d) = [.int .u8 a, .int .u8 b, .int .u8 c, .int .u8 d] := by
  rw [wd_sum a b c d ha hb hc hd]
  unfold by4
  rw [show (a + 256 * b + 65536 * c + 16777216 * d) % 256 = a by omega, show (a + 256 * b + 65536 * c + 16777216 * d) / 256 % 256 = b by omega, show (a + 256 * b + 65536 * c + 16777216 * d) / 65536 % 256 = c by omega, show (a + 256 * b + 65536 * c + 16777216 * d) / 16777216 % 256 = d by omega]
theorem wd_range (a b c d : Int) (ha : 0 ≤ a ∧ a ≤ 255) (hb : 0 ≤ b ∧ b ≤ 255) (hc : 0 ≤ c ∧ c ≤ 255) (hd : 0 ≤ d ∧ d ≤ 255) : 0 ≤ wd a b c d ∧ wd a b c d < 4294967296 := by
  rw [wd_sum a b c d ha hb hc hd]; omega
/-- Two rows of the same bytes: true. -/
theorem same_any (b1 o1 b2 o2 n c1 c2 : Nat) (xs : List Int) (w : World) (hl : xs.length = n)
    (h1 : ∀ i, i < n → w.cell? ⟨b1, o1 + i, none⟩ = some (.int .u8 (xs.getD i 0))) (h2 : ∀ i, i < n → w.cell? ⟨b2, o2 + i, none⟩ = some (.int .u8 (xs.getD i 0))) :
    Calls Try.prog 19 #[.slice (some ⟨b1, o1, none⟩) n c1, .slice (some ⟨b2, o2, none⟩) n c2] w fun e w' => e = .returned (.bool true) ∧ w' = w := by
  have q1 := run_convert_bytes_arg (P := Try.prog) w 29 5 Try.underlying29 Try.underlying5 b1 o1 n c1 xs hl h1 9 Try.underlying9
  have q2 := run_convert_bytes_arg (P := Try.prog) w 29 5 Try.underlying29 Try.underlying5 b2 o2 n c2 xs hl h2 9 Try.underlying9
  clear h1 h2
  go_enter Try.func19, Try.ntmps19
  go_wp2
  go_ret
  exact ⟨by simp, rfl⟩
end Go.Proofs.Ytdbeeblicpdphaa
