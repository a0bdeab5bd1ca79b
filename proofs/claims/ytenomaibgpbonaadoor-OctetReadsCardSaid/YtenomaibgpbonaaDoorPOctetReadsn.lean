/- Numbers made of bytes in either order, as plain Lean. No conditions. -/
import Derived.Test.YtenomaibgpbonaaDoorPOctetReadsq
import Derived.Test.YtenomaibgpbonaaDoorMath
namespace Go.Proofs.YtenomaibgpbonaaDoor.Pure
open Go.RowKit Go.Proofs.YtenomaibgpbonaaDoorW.PrintWords Go.Proofs.YtenomaibgpbonaaDoorW.PrintLast Go.Proofs.YtenomaibgpbonaaDoorW.PrintMore Go.Proofs.YtenomaibgpbonaaDoor.POctetReads Go.Proofs.YtenomaibgpbonaaDoor.Math
/-! ### numbers of bytes -/
def leN : List Nat → Nat
  | [] => 0
  | c :: cs => c + 256 * leN cs
def beN : Nat → List Nat → Nat
  | v, [] => v
  | v, c :: cs => beN (v * 256 + c) cs
def castsB (l : List Nat) : List Int := l.map (fun (n : Nat) => (n : Int))
theorem castsB_length (l : List Nat) : (castsB l).length = l.length := by simp [castsB]
theorem castsB_rd (l : List Nat) (i : Nat) (h : i < l.length) : rd (castsB l) (i : Int) = ((l[i]) : Int) := by
  simp [rd, castsB, List.getD_eq_getElem?_getD, List.getElem?_eq_getElem h]
theorem wrap_small (n : Nat) (h : n < 256) : IntKind.u64.wrap ((n : Nat) : Int) = (n : Int) := by rw [IntKind.wrap_u64]; omega
theorem pow256 (i : Nat) : (2 : Nat) ^ (8 * i) = 256 ^ i := by rw [Nat.pow_mul]
theorem pow_le8 (i : Nat) (h : i ≤ 7) : (256 : Nat) ^ (i + 1) ≤ 18446744073709551616 := by
  have := Nat.pow_le_pow_right (n := 256) (by omega) (show i + 1 ≤ 8 by omega)
  simpa using this
theorem tkl_le (L : List Nat) (hL : ∀ c ∈ L, c < 256) (h8 : L.length ≤ 8) : ∀ (d k i v : Nat), i + d = L.length → d < k → v < 256 ^ i → tkl k (castsB L) true (i : Int) (v : Int) = some (((v + 256 ^ i * leN (L.drop i) : Nat)) : Int) := by
  intro d
  induction d with
  | zero =>
    intro k i v hi hk hv
    obtain ⟨k, rfl⟩ : ∃ m, k = m + 1 := ⟨k - 1, by omega⟩
    rw [tkl, castsB_length, if_neg (by omega), List.drop_eq_nil_of_le (by omega)]
    simp [leN]
  | succ d ih =>
    intro k i v hi hk hv
    obtain ⟨k, rfl⟩ : ∃ m, k = m + 1 := ⟨k - 1, by omega⟩
    have hil : i < L.length := by omega
    have hc : L[i] < 256 := hL _ (List.getElem_mem hil)
    have hp8 := pow_le8 i (by omega)
    rw [Nat.pow_succ] at hp8
    have hpp : 0 < 256 ^ i := Nat.pow_pos (by omega)
    have hm : L[i] * 256 ^ i ≤ 255 * 256 ^ i := Nat.mul_le_mul_right _ (by omega)
    rw [tkl, castsB_length, if_pos (by omega), castsB_rd L i hil, if_pos rfl, wrap_small _ hc, show (8 : Int) * (i : Int) = ((8 * i : Nat) : Int) from by omega, shlN _ (8 * i) (by omega), pow256, Nat.mod_eq_of_lt (by omega), ← pow256]
    rw [orN_add v L[i] (8 * i) (by rw [pow256]; exact hv) (by rw [pow256, Nat.mul_comm]; omega), pow256, show (i : Int) + 1 = ((i + 1 : Nat) : Int) from by omega]
    rw [ih k (i + 1) _ (by omega) (by omega) (by rw [Nat.pow_succ, Nat.mul_comm (256 ^ i) L[i]]; omega), List.drop_eq_getElem_cons hil, leN, Nat.pow_succ]
    congr 2
    rw [Nat.mul_add, ← Nat.mul_assoc, Nat.add_assoc]
theorem tkl_be (L : List Nat) (hL : ∀ c ∈ L, c < 256) (h8 : L.length ≤ 8) : ∀ (d k i v : Nat), i + d = L.length → d < k → v < 256 ^ i → tkl k (castsB L) false (i : Int) (v : Int) = some ((beN v (L.drop i) : Nat) : Int) := by
  intro d
  induction d with
  | zero =>
    intro k i v hi hk hv
    obtain ⟨k, rfl⟩ : ∃ m, k = m + 1 := ⟨k - 1, by omega⟩
    rw [tkl, castsB_length, if_neg (by omega), List.drop_eq_nil_of_le (by omega)]
    rfl
  | succ d ih =>
    intro k i v hi hk hv
    obtain ⟨k, rfl⟩ : ∃ m, k = m + 1 := ⟨k - 1, by omega⟩
    have hil : i < L.length := by omega
    have hc : L[i] < 256 := hL _ (List.getElem_mem hil)
    have hp8 := pow_le8 i (by omega)
    rw [Nat.pow_succ] at hp8
    rw [tkl, castsB_length, if_pos (by omega), castsB_rd L i hil, if_neg (by decide), wrap_small _ hc, show (8 : Int) = ((8 : Nat) : Int) from rfl, shlN v 8 (by omega), Nat.mod_eq_of_lt (by omega)]
    rw [orN_add' L[i] v 8 (by omega) (by omega), show (i : Int) + 1 = ((i + 1 : Nat) : Int) from by omega, ih k (i + 1) _ (by omega) (by omega) (by rw [Nat.pow_succ]; omega), List.drop_eq_getElem_cons hil, beN]
    congr 3
    omega
theorem leN_lt : ∀ (L : List Nat), (∀ c ∈ L, c < 256) → leN L < 256 ^ L.length
  | [], _ => by simp [leN]
  | c :: cs, h => by
    have h1 := h c (List.mem_cons_self ..)
    have h2 := leN_lt cs (fun x hx => h x (List.mem_cons_of_mem _ hx))
    rw [leN, List.length_cons, Nat.pow_succ]
    omega
theorem beN_lt : ∀ (L : List Nat) (v i : Nat), (∀ c ∈ L, c < 256) → v < 256 ^ i → beN v L < 256 ^ (i + L.length)
  | [], v, i, _, hv => by simpa [beN] using hv
  | c :: cs, v, i, h, hv => by
    have h1 := h c (List.mem_cons_self ..)
    have h2 := beN_lt cs (v * 256 + c) (i + 1) (fun x hx => h x (List.mem_cons_of_mem _ hx)) (by rw [Nat.pow_succ]; omega)
    rw [beN, List.length_cons, show i + (cs.length + 1) = i + 1 + cs.length from by omega]
    exact h2
theorem num_le (L : List Nat) (hL : ∀ c ∈ L, c < 256) (h8 : L.length ≤ 8) : ∀ (d k i : Nat), i + d = L.length → d < k → plumbref16_Number.l0 k (castsB L) true ((leN (L.drop d) : Nat) : Int) (i : Int) = some ((leN L : Nat) : Int) := by
  intro d
  induction d with
  | zero =>
    intro k i hi hk
    obtain ⟨k, rfl⟩ : ∃ m, k = m + 1 := ⟨k - 1, by omega⟩
    rw [plumbref16_Number.l0, castsB_length, if_neg (by omega)]
    simp
  | succ d ih =>
    intro k i hi hk
    obtain ⟨k, rfl⟩ : ∃ m, k = m + 1 := ⟨k - 1, by omega⟩
    have hdl : d < L.length := by omega
    have hc : L[d] < 256 := hL _ (List.getElem_mem hdl)
    have hlt := leN_lt (L.drop (d + 1)) (fun c hc => hL c (List.mem_of_mem_drop hc))
    rw [List.length_drop] at hlt
    have hp8 := pow_le8 i (by omega)
    rw [show L.length - (d + 1) = i from by omega] at hlt
    rw [Nat.pow_succ] at hp8
    have ew : wrap64 (wrap64 ((L.length : Int) - 1) - (i : Int)) = ((d : Nat) : Int) := by unfold wrap64; omega
    rw [plumbref16_Number.l0, castsB_length, if_pos (by omega), if_pos rfl, ew, if_pos (by omega), if_pos (by omega), castsB_rd L d hdl, wrap_small _ hc]
    have e1 : IntKind.u64.wrap (IntKind.u64.wrap (((leN (L.drop (d + 1)) : Nat) : Int) * 256) + (L[d] : Int)) = ((leN (L.drop d) : Nat) : Int) := by
      rw [List.drop_eq_getElem_cons hdl, leN, IntKind.wrap_u64, IntKind.wrap_u64]
      omega
    rw [e1, show wrap64 ((i : Int) + 1) = ((i + 1 : Nat) : Int) from by unfold wrap64; omega]
    exact ih k (i + 1) (by omega) (by omega)
theorem num_be (L : List Nat) (hL : ∀ c ∈ L, c < 256) (h8 : L.length ≤ 8) : ∀ (d k i v : Nat), i + d = L.length → d < k → v < 256 ^ i → plumbref16_Number.l0 k (castsB L) false (v : Int) (i : Int) = some ((beN v (L.drop i) : Nat) : Int) := by
  intro d
  induction d with
  | zero =>
    intro k i v hi hk hv
    obtain ⟨k, rfl⟩ : ∃ m, k = m + 1 := ⟨k - 1, by omega⟩
    rw [plumbref16_Number.l0, castsB_length, if_neg (by omega), List.drop_eq_nil_of_le (by omega)]
    rfl
  | succ d ih =>
    intro k i v hi hk hv
    obtain ⟨k, rfl⟩ : ∃ m, k = m + 1 := ⟨k - 1, by omega⟩
    have hil : i < L.length := by omega
    have hc : L[i] < 256 := hL _ (List.getElem_mem hil)
    have hp8 := pow_le8 i (by omega)
    rw [Nat.pow_succ] at hp8
    rw [plumbref16_Number.l0, castsB_length, if_pos (by omega), if_neg (by decide), if_pos (by omega), castsB_rd L i hil, wrap_small _ hc]
    have e1 : IntKind.u64.wrap (IntKind.u64.wrap ((v : Int) * 256) + (L[i] : Int)) = ((v * 256 + L[i] : Nat) : Int) := by
      rw [IntKind.wrap_u64, IntKind.wrap_u64]
      omega
    rw [e1, show wrap64 ((i : Int) + 1) = ((i + 1 : Nat) : Int) from by unfold wrap64; omega, ih k (i + 1) _ (by omega) (by omega) (by rw [Nat.pow_succ]; omega), List.drop_eq_getElem_cons hil, beN]
theorem casts_of (b : List Int) (hb : ∀ x ∈ b, 0 ≤ x ∧ x < 256) : ∃ L : List Nat, b = castsB L ∧ L.length = b.length ∧ ∀ c ∈ L, c < 256 := by
  refine ⟨b.map Int.toNat, ?_, by simp, ?_⟩
  · rw [castsB, List.map_map]
    refine (List.map_id b).symm.trans (List.map_congr_left fun x hx => ?_)
    have := hb x hx
    simp only [id, Function.comp]
    omega
  · intro c hc
    obtain ⟨x, hx, rfl⟩ := List.mem_map.1 hc
    have := hb x hx
    omega
/-- The reader's number and the reference's. -/
theorem both_num (b : List Int) (hb : ∀ x ∈ b, 0 ≤ x ∧ x < 256) (h8 : b.length ≤ 8) (le : Bool) :
    ∃ v : Nat, tkl 20 b le 0 0 = some (v : Int) ∧ plumbref16_Number.f 20 b le = some (v : Int) ∧ v < 256 ^ b.length := by
  obtain ⟨L, rfl, hl, hL⟩ := casts_of b hb
  rw [← hl] at h8 ⊢
  cases le
  · refine ⟨beN 0 L, ?_, ?_, ?_⟩
    · simpa using tkl_be L hL h8 L.length 20 0 0 (by omega) (by omega) (by simp)
    · simpa [plumbref16_Number.f] using num_be L hL h8 L.length 20 0 0 (by omega) (by omega) (by simp)
    · simpa using beN_lt L 0 0 hL (by simp)
  · refine ⟨leN L, ?_, ?_, leN_lt L hL⟩
    · simpa using tkl_le L hL h8 L.length 20 0 0 (by omega) (by omega) (by simp)
    · have := num_le L hL h8 L.length 20 0 (by omega) (by omega)
      rw [List.drop_eq_nil_of_le (Nat.le_refl _)] at this
      simpa [plumbref16_Number.f, leN] using this
end Go.Proofs.YtenomaibgpbonaaDoor.Pure
