/- The law plumblaw16.OctetPuts, told as a function over whole numbers and lists, answers true at every list of bytes, word and order. No condition. -/
import Derived.Test.YtenomaibgpbonaaPOctetPutsx2
import Derived.Test.YtenomaibgpbonaaMath
namespace Go.Proofs.Ytenomaibgpbonaa.Pure
open Go.RowKit Go.Proofs.Ytenomaibgpbonaa.POctetPuts Go.Proofs.YtenomaibgpbonaaW.PrintWords Go.Proofs.YtenomaibgpbonaaW.PrintLast Go.Proofs.YtenomaibgpbonaaW.PrintMore Go.Proofs.Ytenomaibgpbonaa.Math

theorem same_l0 (xs : List Int) (hl : xs.length ≤ 140737488355328) (d : Nat) : ∀ k i : Nat, xs.length = i + d → d < k → plumblaw16_same.l0 k xs xs (i : Int) = some true := by
  induction d with
  | zero =>
    intro k i h hk
    obtain ⟨k, rfl⟩ : ∃ m, k = m + 1 := ⟨k - 1, by omega⟩
    simp only [plumblaw16_same.l0]
    rw [if_neg (by omega)]
  | succ d ih =>
    intro k i h hk
    obtain ⟨k, rfl⟩ : ∃ m, k = m + 1 := ⟨k - 1, by omega⟩
    simp only [plumblaw16_same.l0]
    rw [if_pos (by omega), if_pos (by omega), if_pos (by omega), if_pos trivial, show wrap64 ((i : Int) + 1) = ((i + 1 : Nat) : Int) from by unfold wrap64; omega]
    exact ih k (i + 1) (by omega) (by omega)
theorem same_spec (xs ys : List Int) (k : Nat) (e : ys = xs) (hl : xs.length ≤ 140737488355328) (hk : xs.length < k) : plumblaw16_same.f k xs ys = some true := by
  subst e
  unfold plumblaw16_same.f
  rw [if_pos rfl]
  exact same_l0 ys hl ys.length k 0 (by omega) hk
theorem kept_spec (b : List Int) (k : Nat) (hl : b.length ≤ 140737488351232) (hk : b.length < k) : plumblaw16_kept.f k (b ++ [77, 88]) b = some true := by
  unfold plumblaw16_kept.f
  have hlen : (b ++ [77, 88]).length = b.length + 2 := by simp
  have e2 : wrap64 ((b.length : Int) + 2) = (b.length : Int) + 2 := by unfold wrap64; omega
  have e1 : wrap64 ((b.length : Int) + 1) = ((b.length + 1 : Nat) : Int) := by unfold wrap64; omega
  rw [hlen, e2, e1, if_pos (by omega), if_pos (by omega), if_pos (by omega), Int.toNat_natCast, List.take_left, same_spec b b k rfl (by omega) hk, Option.bind_some, if_pos rfl, if_pos (by omega),
    if_pos (by simp [rd, List.getD_eq_getElem?_getD]), if_pos (by omega), if_pos (by omega)]
  have : rd (b ++ [77, 88]) ((b.length + 1 : Nat) : Int) = 88 := by
    simp only [rd, Int.toNat_natCast, List.getD_eq_getElem?_getD]
    rw [List.getElem?_append_right (by omega), Nat.add_sub_cancel_left]
    rfl
  rw [this]; rfl
theorem lent_spec (b : List Int) (hl : b.length ≤ 140737488351232) : plumblaw16_lent.f b = some (b ++ [77, 88]) := by
  unfold plumblaw16_lent.f
  rw [if_pos (by simp; omega)]
  simp only [Option.bind_some, List.nil_append]
  rw [if_pos (by simp; omega)]

theorem refput_l0 (k : Nat) (x : Nat) (sz i : Int) (le : Bool) (out ps : List Int) (hx : x < 18446744073709551616) (hi : i < sz) (h0 : 0 ≤ i) (hs : sz ≤ 8) (hp : ps.length ≤ 8) :
    plumbref16_Put.l0 (k + 1) (x : Int) sz le out ps i = plumbref16_Put.l0 k ((x / 256 : Nat) : Int) sz le out (ps ++ [((x % 256 : Nat) : Int)]) (i + 1) := by
  rw [plumbref16_Put.l0, if_pos hi, if_pos (by omega), Int.tdiv_eq_ediv_of_nonneg (by omega), Int.tmod_eq_emod_of_nonneg (by omega),
    show IntKind.u64.wrap ((x : Int) / 256) = ((x / 256 : Nat) : Int) from by rw [IntKind.wrap_u64]; omega, show ((x : Int) % 256) % 256 = ((x % 256 : Nat) : Int) from by omega, show wrap64 (i + 1) = i + 1 from by unfold wrap64; omega]
theorem refput_le (k : Nat) (sz i : Int) (out ps : List Int) (hi : i < sz) (h0 : 0 ≤ i) (hs : sz ≤ 8) (hp : ps.length = sz) (ho : out.length ≤ 140737488351300) :
    plumbref16_Put.l1 (k + 1) sz true out ps i = plumbref16_Put.l1 k sz true (out ++ [rd ps i]) ps (i + 1) := by
  rw [plumbref16_Put.l1, if_pos hi, if_pos rfl, if_pos h0, if_pos (by omega), if_pos (by omega), show wrap64 (i + 1) = i + 1 from by unfold wrap64; omega]
theorem refput_be (k : Nat) (sz i : Int) (out ps : List Int) (hi : i < sz) (h0 : 0 ≤ i) (hs : sz ≤ 8) (hp : ps.length = sz) (ho : out.length ≤ 140737488351300) :
    plumbref16_Put.l1 (k + 1) sz false out ps i = plumbref16_Put.l1 k sz false (out ++ [rd ps (sz - 1 - i)]) ps (i + 1) := by
  rw [plumbref16_Put.l1, if_pos hi, if_neg (by simp), show wrap64 (wrap64 (sz - 1) - i) = sz - 1 - i from by unfold wrap64; omega, if_pos (by omega), if_pos (by omega), if_pos (by omega), show wrap64 (i + 1) = i + 1 from by unfold wrap64; omega]
theorem refput4 (b : List Int) (v : Nat) (le : Bool) (k : Nat) (hv : v < 18446744073709551616) (hb : b.length ≤ 140737488351232) (hk : 20 < k) :
    plumbref16_Put.f k b (v : Int) 4 le = some (octet_put_uint32.out b (v : Int) le) := by
  obtain ⟨k, rfl⟩ : ∃ m, k = m + 1 + 1 + 1 + 1 + 1 + 1 + 1 + 1 + 1 + 1 := ⟨k - 10, by omega⟩
  unfold plumbref16_Put.f octet_put_uint32.out
  rw [if_pos (by simp; omega), List.nil_append]
  rw [refput_l0 _ v 4 0 le b _ (by omega) (by omega) (by omega) (by omega) (by simp), refput_l0 _ _ 4 (0 + 1) le b _ (by omega) (by omega) (by omega) (by omega) (by simp), refput_l0 _ _ 4 (0 + 1 + 1) le b _ (by omega) (by omega) (by omega) (by omega) (by simp), refput_l0 _ _ 4 (0 + 1 + 1 + 1) le b _ (by omega) (by omega) (by omega) (by omega) (by simp)]
  rw [plumbref16_Put.l0, if_neg (by omega)]
  cases le
  · rw [refput_be _ 4 0 b _ (by omega) (by omega) (by omega) (by simp) (by omega), refput_be _ 4 (0 + 1) _ _ (by omega) (by omega) (by omega) (by simp) (by simp; omega), refput_be _ 4 (0 + 1 + 1) _ _ (by omega) (by omega) (by omega) (by simp) (by simp; omega), refput_be _ 4 (0 + 1 + 1 + 1) _ _ (by omega) (by omega) (by omega) (by simp) (by simp; omega)]
    rw [plumbref16_Put.l1, if_neg (by omega), if_neg (by simp)]
    refine congrArg some ?_
    simp [rd]
    omega
  · rw [refput_le _ 4 0 b _ (by omega) (by omega) (by omega) (by simp) (by omega), refput_le _ 4 (0 + 1) _ _ (by omega) (by omega) (by omega) (by simp) (by simp; omega), refput_le _ 4 (0 + 1 + 1) _ _ (by omega) (by omega) (by omega) (by simp) (by simp; omega), refput_le _ 4 (0 + 1 + 1 + 1) _ _ (by omega) (by omega) (by omega) (by simp) (by simp; omega)]
    rw [plumbref16_Put.l1, if_neg (by omega), if_pos rfl]
    refine congrArg some ?_
    simp [rd]
    omega
theorem refput8 (b : List Int) (v : Nat) (le : Bool) (k : Nat) (hv : v < 18446744073709551616) (hb : b.length ≤ 140737488351232) (hk : 30 < k) :
    plumbref16_Put.f k b (v : Int) 8 le = some (octet_put_uint64.out b (v : Int) le) := by
  obtain ⟨k, rfl⟩ : ∃ m, k = m + 1 + 1 + 1 + 1 + 1 + 1 + 1 + 1 + 1 + 1 + 1 + 1 + 1 + 1 + 1 + 1 + 1 + 1 := ⟨k - 18, by omega⟩
  unfold plumbref16_Put.f octet_put_uint64.out
  rw [if_pos (by simp; omega), List.nil_append]
  rw [refput_l0 _ v 8 0 le b _ (by omega) (by omega) (by omega) (by omega) (by simp), refput_l0 _ _ 8 (0 + 1) le b _ (by omega) (by omega) (by omega) (by omega) (by simp), refput_l0 _ _ 8 (0 + 1 + 1) le b _ (by omega) (by omega) (by omega) (by omega) (by simp), refput_l0 _ _ 8 (0 + 1 + 1 + 1) le b _ (by omega) (by omega) (by omega) (by omega) (by simp), refput_l0 _ _ 8 (0 + 1 + 1 + 1 + 1) le b _ (by omega) (by omega) (by omega) (by omega) (by simp), refput_l0 _ _ 8 (0 + 1 + 1 + 1 + 1 + 1) le b _ (by omega) (by omega) (by omega) (by omega) (by simp), refput_l0 _ _ 8 (0 + 1 + 1 + 1 + 1 + 1 + 1) le b _ (by omega) (by omega) (by omega) (by omega) (by simp), refput_l0 _ _ 8 (0 + 1 + 1 + 1 + 1 + 1 + 1 + 1) le b _ (by omega) (by omega) (by omega) (by omega) (by simp)]
  rw [plumbref16_Put.l0, if_neg (by omega)]
  cases le
  · rw [refput_be _ 8 0 b _ (by omega) (by omega) (by omega) (by simp) (by omega), refput_be _ 8 (0 + 1) _ _ (by omega) (by omega) (by omega) (by simp) (by simp; omega), refput_be _ 8 (0 + 1 + 1) _ _ (by omega) (by omega) (by omega) (by simp) (by simp; omega), refput_be _ 8 (0 + 1 + 1 + 1) _ _ (by omega) (by omega) (by omega) (by simp) (by simp; omega), refput_be _ 8 (0 + 1 + 1 + 1 + 1) _ _ (by omega) (by omega) (by omega) (by simp) (by simp; omega), refput_be _ 8 (0 + 1 + 1 + 1 + 1 + 1) _ _ (by omega) (by omega) (by omega) (by simp) (by simp; omega), refput_be _ 8 (0 + 1 + 1 + 1 + 1 + 1 + 1) _ _ (by omega) (by omega) (by omega) (by simp) (by simp; omega), refput_be _ 8 (0 + 1 + 1 + 1 + 1 + 1 + 1 + 1) _ _ (by omega) (by omega) (by omega) (by simp) (by simp; omega)]
    rw [plumbref16_Put.l1, if_neg (by omega), if_neg (by simp)]
    refine congrArg some ?_
    simp [rd]
    omega
  · rw [refput_le _ 8 0 b _ (by omega) (by omega) (by omega) (by simp) (by omega), refput_le _ 8 (0 + 1) _ _ (by omega) (by omega) (by omega) (by simp) (by simp; omega), refput_le _ 8 (0 + 1 + 1) _ _ (by omega) (by omega) (by omega) (by simp) (by simp; omega), refput_le _ 8 (0 + 1 + 1 + 1) _ _ (by omega) (by omega) (by omega) (by simp) (by simp; omega), refput_le _ 8 (0 + 1 + 1 + 1 + 1) _ _ (by omega) (by omega) (by omega) (by simp) (by simp; omega), refput_le _ 8 (0 + 1 + 1 + 1 + 1 + 1) _ _ (by omega) (by omega) (by omega) (by simp) (by simp; omega), refput_le _ 8 (0 + 1 + 1 + 1 + 1 + 1 + 1) _ _ (by omega) (by omega) (by omega) (by simp) (by simp; omega), refput_le _ 8 (0 + 1 + 1 + 1 + 1 + 1 + 1 + 1) _ _ (by omega) (by omega) (by omega) (by simp) (by simp; omega)]
    rw [plumbref16_Put.l1, if_neg (by omega), if_pos rfl]
    refine congrArg some ?_
    simp [rd]
    omega

theorem OctetPuts : plumblaw16_OctetPuts.Pure := by
  intro b v le h1 h2 h3 hv
  have hvb := bounds_u64 hv
  obtain ⟨V, rfl⟩ : ∃ V : Nat, v = (V : Int) := ⟨v.toNat, by omega⟩
  have hl : b.length ≤ 140737488351232 := by omega
  obtain ⟨k, hk⟩ : ∃ k : Nat, b.length + 100 < k := ⟨b.length + 101, by omega⟩
  refine ⟨k, ?_⟩
  unfold plumblaw16_OctetPuts.f
  have hlen : (b ++ [77, 88]).length = b.length + 2 := by simp
  have e4 : ((V : Int)) % 4294967296 = ((V % 4294967296 : Nat) : Int) := by omega
  rw [lent_spec b hl, Option.bind_some, hlen, if_pos (by omega), if_pos (by omega), Int.toNat_natCast, List.take_left, Int.tmod_eq_emod_of_nonneg (by omega), e4]
  have p4 : octet_Put32.f b ((V % 4294967296 : Nat) : Int) le = some (octet_put_uint32.out b ((V % 4294967296 : Nat) : Int) le) := by
    unfold octet_Put32.f octet_put_uint32.f
    rw [if_pos ⟨rfl, by omega⟩, Option.bind_some]
  have p8 : octet_Put64.f b (V : Int) le = some (octet_put_uint64.out b (V : Int) le) := by
    unfold octet_Put64.f octet_put_uint64.f
    rw [if_pos ⟨rfl, by omega⟩, Option.bind_some]
  have l4 : (octet_put_uint32.out b ((V % 4294967296 : Nat) : Int) le).length = b.length + 4 := by unfold octet_put_uint32.out; split <;> simp
  have l8 : (octet_put_uint64.out b (V : Int) le).length = b.length + 8 := by unfold octet_put_uint64.out; split <;> simp
  rw [p4, Option.bind_some, p8, Option.bind_some, refput4 b (V % 4294967296) le k (by omega) hl (by omega), Option.bind_some, same_spec _ _ k rfl (by omega) (by omega), Option.bind_some, if_pos rfl,
    refput8 b V le k (by omega) hl (by omega), Option.bind_some, same_spec _ _ k rfl (by omega) (by omega), Option.bind_some, if_pos rfl, kept_spec b k hl (by omega), Option.bind_some]

end Go.Proofs.Ytenomaibgpbonaa.Pure
