/- The law plumblaw01.WideHalves, told as a function over whole numbers, answers true at every two words of 64 bits. No condition. -/
import Derived.Test.YthinhdnbhkppgaaPWideHalvesx1
import Derived.Test.YthinhdnbhkppgaaMath
import Derived.Test.YthinhdnbhkppgaaMathBits
namespace Go.Proofs.Ythinhdnbhkppgaa.Pure
open Go.RowKit Go.Proofs.Ythinhdnbhkppgaa.PWideHalves Go.Proofs.YthinhdnbhkppgaaW.PrintWords Go.Proofs.YthinhdnbhkppgaaW.PrintLast Go.Proofs.YthinhdnbhkppgaaW.PrintMore Go.Proofs.Ythinhdnbhkppgaa.Math

theorem WideHalves : plumblaw01_WideHalves.Pure := by
  intro a b ha hb
  obtain ⟨ha0, ha1⟩ := u64_bd ha
  obtain ⟨hb0, hb1⟩ := u64_bd hb
  unfold plumblaw01_WideHalves.f wide_Mul.f
  rw [if_pos ⟨ha0, ha1, hb0, hb1⟩, and32 ha0 ha1, and32 hb0 hb1]
  simp only [Option.bind_some, wrapI]
  obtain ⟨x0, hx0⟩ : ∃ x, a % 4294967296 = x := ⟨_, rfl⟩
  obtain ⟨x1, hx1⟩ : ∃ x, a / 4294967296 = x := ⟨_, rfl⟩
  obtain ⟨y0, hy0⟩ : ∃ x, b % 4294967296 = x := ⟨_, rfl⟩
  obtain ⟨y1, hy1⟩ : ∃ x, b / 4294967296 = x := ⟨_, rfl⟩
  rw [hx0, hx1, hy0, hy1]
  obtain ⟨p00, h00⟩ : ∃ p, x0 * y0 = p := ⟨_, rfl⟩
  obtain ⟨p01, h01⟩ : ∃ p, x0 * y1 = p := ⟨_, rfl⟩
  obtain ⟨p10, h10⟩ : ∃ p, x1 * y0 = p := ⟨_, rfl⟩
  obtain ⟨p11, h11⟩ : ∃ p, x1 * y1 = p := ⟨_, rfl⟩
  have b00 : 0 ≤ p00 ∧ p00 ≤ 18446744065119617025 := h00 ▸ hand_mulB (by omega) (by omega) (by omega) (by omega)
  have b01 : 0 ≤ p01 ∧ p01 ≤ 18446744065119617025 := h01 ▸ hand_mulB (by omega) (by omega) (by omega) (by omega)
  have b10 : 0 ≤ p10 ∧ p10 ≤ 18446744065119617025 := h10 ▸ hand_mulB (by omega) (by omega) (by omega) (by omega)
  have b11 : 0 ≤ p11 ∧ p11 ≤ 18446744065119617025 := h11 ▸ hand_mulB (by omega) (by omega) (by omega) (by omega)
  have hab : a * b = p00 + 4294967296 * p01 + 4294967296 * p10 + 18446744073709551616 * p11 := by
    have e1 : a = x0 + 4294967296 * x1 := by omega
    have e2 : b = y0 + 4294967296 * y1 := by omega
    rw [e1, e2, ← h00, ← h01, ← h10, ← h11, Int.add_mul, Int.mul_add, Int.mul_add, Int.mul_left_comm x0, Int.mul_assoc, Int.mul_assoc, Int.mul_left_comm x1]
    omega
  rw [hab, h00, h01, h10, h11]
  clear hab h00 h01 h10 h11 hx0 hx1 hy0 hy1 ha hb
  rw [Int.emod_eq_of_lt b00.1 (by omega), Int.emod_eq_of_lt b01.1 (by omega), Int.emod_eq_of_lt b10.1 (by omega), Int.emod_eq_of_lt b11.1 (by omega)]
  obtain ⟨c0, hc0⟩ : ∃ x, p00 / 4294967296 = x := ⟨_, rfl⟩
  rw [hc0, Int.emod_eq_of_lt (a := p10 + c0) (by omega) (by omega)]
  obtain ⟨s1, hs1⟩ : ∃ x, p10 + c0 = x := ⟨_, rfl⟩
  rw [hs1, and32 (a := s1) (by omega) (by omega)]
  obtain ⟨c1, hc1⟩ : ∃ x, s1 / 4294967296 = x := ⟨_, rfl⟩
  obtain ⟨l1, hl1⟩ : ∃ x, s1 % 4294967296 = x := ⟨_, rfl⟩
  rw [hc1, hl1, Int.emod_eq_of_lt (a := c1 + p11) (by omega) (by omega), Int.emod_eq_of_lt (a := l1 + p01) (by omega) (by omega)]
  obtain ⟨s2, hs2⟩ : ∃ x, l1 + p01 = x := ⟨_, rfl⟩
  rw [hs2, and32 (a := p00) b00.1 (by omega)]
  rw [if_pos (by omega)]
  simp only [Option.some.injEq, beq_iff_eq]
  omega

end Go.Proofs.Ythinhdnbhkppgaa.Pure
