/- The law plumblaw16.OctetHex, told as a function over whole numbers, lists and texts, answers true at every list of bytes and every text of at most 1048576 each. No other condition. -/
import Derived.Test.YtenomaibgpbonaaDoorPOctetHexx4
import Derived.Test.YtenomaibgpbonaaDoorMath
namespace Go.Proofs.YtenomaibgpbonaaDoor.Pure
open Go.RowKit Go.Proofs.YtenomaibgpbonaaDoor.POctetHex Go.Proofs.YtenomaibgpbonaaDoorW.PrintWords Go.Proofs.YtenomaibgpbonaaDoorW.PrintLast Go.Proofs.YtenomaibgpbonaaDoorW.PrintMore Go.Proofs.YtenomaibgpbonaaDoor.Math

theorem same_l0 (xs : List Int) (hl : xs.length ≤ 140737488355328) (d : Nat) : ∀ k i : Nat, xs.length = i + d → d < k → plumblaw16_same.l0 k xs xs (i : Int) = some true := by
  induction d with
  | zero =>
    intro k i h hk
    obtain ⟨k, rfl⟩ : ∃ m, k = m + 1 := ⟨k - 1, by omega⟩
    simp only [plumblaw16_same.l0]
    rw [if_neg (by omega)]
  | succ d ih =>
    intro k i h hk
    obtain ⟨k, rfl⟩ : ∃ m, k = m + 1 := ⟨k - 1, by omega⟩
    simp only [plumblaw16_same.l0]
    rw [if_pos (by omega), if_pos (by omega), if_pos (by omega), if_pos trivial, show wrap64 ((i : Int) + 1) = ((i + 1 : Nat) : Int) from by unfold wrap64; omega]
    exact ih k (i + 1) (by omega) (by omega)
theorem same_spec (xs ys : List Int) (k : Nat) (e : ys = xs) (hl : xs.length ≤ 140737488355328) (hk : xs.length < k) : plumblaw16_same.f k xs ys = some true := by
  subst e
  unfold plumblaw16_same.f
  rw [if_pos rfl]
  exact same_l0 ys hl ys.length k 0 (by omega) hk
theorem kept_spec (b : List Int) (k : Nat) (hl : b.length ≤ 140737488351232) (hk : b.length < k) : plumblaw16_kept.f k (b ++ [77, 88]) b = some true := by
  unfold plumblaw16_kept.f
  have hlen : (b ++ [77, 88]).length = b.length + 2 := by simp
  have e2 : wrap64 ((b.length : Int) + 2) = (b.length : Int) + 2 := by unfold wrap64; omega
  have e1 : wrap64 ((b.length : Int) + 1) = ((b.length + 1 : Nat) : Int) := by unfold wrap64; omega
  rw [hlen, e2, e1, if_pos (by omega), if_pos (by omega), if_pos (by omega), Int.toNat_natCast, List.take_left, same_spec b b k rfl (by omega) hk, Option.bind_some, if_pos rfl, if_pos (by omega),
    if_pos (by simp [rd, List.getD_eq_getElem?_getD]), if_pos (by omega), if_pos (by omega)]
  have : rd (b ++ [77, 88]) ((b.length + 1 : Nat) : Int) = 88 := by
    simp only [rd, Int.toNat_natCast, List.getD_eq_getElem?_getD]
    rw [List.getElem?_append_right (by omega), Nat.add_sub_cancel_left]
    rfl
  rw [this]; rfl
theorem lent_spec (b : List Int) (hl : b.length ≤ 140737488351232) : plumblaw16_lent.f b = some (b ++ [77, 88]) := by
  unfold plumblaw16_lent.f
  rw [if_pos (by simp; omega)]
  simp only [Option.bind_some, List.nil_append]
  rw [if_pos (by simp; omega)]

/-- A hex digit's value. -/
def dv (c : Int) : Option Int := if 48 ≤ c ∧ c ≤ 57 then some (c - 48) else if 97 ≤ c ∧ c ≤ 102 then some (c - 87) else if 65 ≤ c ∧ c ≤ 70 then some (c - 55) else none
def dvB (c : Int) : Int × Bool := match dv c with
  | some v => (v, true)
  | none => (0, false)
def dvI (c : Int) : Int := match dv c with
  | some v => v
  | none => -1
theorem lift_k {α : Type} {g : Nat → Option α} (h : ∀ k, LeO (g k) (g (k + 1))) {r : α} {k : Nat} (e : g k = some r) : ∀ m, k ≤ m → g m = some r := by
  intro m hm
  induction m with
  | zero => rw [Nat.le_zero.1 hm] at e; exact e
  | succ m ih =>
    rcases Nat.lt_or_ge k (m + 1) with h1 | h1
    · exact h m r (ih (by omega))
    · rw [show k = m + 1 from by omega] at e; exact e
theorem digit_all : ∀ c : Fin 256, octet_digit.f 4 ((c.val : Nat) : Int) = some (dvB ((c.val : Nat) : Int)) := by decide +kernel
theorem digit_spec (c : Int) (k : Nat) (h0 : 0 ≤ c) (h1 : c < 256) (hk : 4 ≤ k) : octet_digit.f k c = some (dvB c) := by
  obtain ⟨n, rfl⟩ := Int.eq_ofNat_of_zero_le h0
  exact lift_k (fun k => octet_digit.mono (n : Int) k) (digit_all ⟨n, by omega⟩) k hk
theorem value_all : ∀ c : Fin 256, plumbref16_value.f 24 ((c.val : Nat) : Int) = some (dvI ((c.val : Nat) : Int)) := by decide +kernel
theorem value_spec (c : Int) (k : Nat) (h0 : 0 ≤ c) (h1 : c < 256) (hk : 24 ≤ k) : plumbref16_value.f k c = some (dvI c) := by
  obtain ⟨n, rfl⟩ := Int.eq_ofNat_of_zero_le h0
  exact lift_k (fun k => plumbref16_value.mono (n : Int) k) (value_all ⟨n, by omega⟩) k hk
theorem and15_all : ∀ c : Fin 256, Go.bits .and .u8 ((c.val : Nat) : Int) 15 = ((c.val : Nat) : Int) % 16 := by decide +kernel
theorem and15 (c : Int) (h0 : 0 ≤ c) (h1 : c < 256) : Go.bits .and .u8 c 15 = c % 16 := by
  obtain ⟨n, rfl⟩ := Int.eq_ofNat_of_zero_le h0
  exact and15_all ⟨n, by omega⟩
theorem or16_all : ∀ c d : Fin 16, Go.bits .or .u8 ((c.val * 16 : Nat) : Int) ((d.val : Nat) : Int) = ((c.val * 16 + d.val : Nat) : Int) := by decide +kernel
theorem dv_range {c v : Int} (h : dv c = some v) : 0 ≤ v ∧ v < 16 := by
  unfold dv at h
  repeat' split at h
  all_goals first | (simp only [Option.some.injEq] at h; omega) | cases h

theorem bt_range (a : ByteArray) (i : Int) : 0 ≤ bt a i ∧ bt a i < 256 := by
  unfold bt
  split
  · exact ⟨by omega, by have := (a[i.toNat]).toNat_lt; omega⟩
  · omega
theorem drop_rd (l : List Int) (i : Nat) (h : i < l.length) : l.drop i = rd l (i : Int) :: l.drop (i + 1) := by
  rw [List.drop_eq_getElem_cons h]
  congr 1
  simp [rd, List.getD_eq_getElem?_getD, List.getElem?_eq_getElem h]
theorem rd_mem (l : List Int) (i : Nat) (h : i < l.length) : rd l (i : Int) ∈ l := by
  simp [rd, List.getD_eq_getElem?_getD, List.getElem?_eq_getElem h]
def hexOf (b : Int) : List Int := [bt (⟨#[48, 49, 50, 51, 52, 53, 54, 55, 56, 57, 97, 98, 99, 100, 101, 102]⟩ : ByteArray) (b / 16), bt (⟨#[48, 49, 50, 51, 52, 53, 54, 55, 56, 57, 97, 98, 99, 100, 101, 102]⟩ : ByteArray) (b % 16)]
def hexs (l : List Int) : List Int := l.flatMap hexOf
theorem hexs_length (l : List Int) : (hexs l).length = 2 * l.length := by
  induction l with
  | nil => rfl
  | cons x l ih => simp only [hexs, List.flatMap_cons, List.length_append, List.length_cons] at ih ⊢; rw [ih]; simp [hexOf]; omega
theorem hex_l0 (l : List Int) (hw : ∀ x ∈ l, 0 ≤ x ∧ x < 256) (hl : l.length ≤ 1048576) : ∀ (d k i : Nat) (x3 : List Int), l.length = i + d → d < k → x3.length ≤ 2 * i → octet_Hex.l0 k x3 l (l.length : Int) (i : Int) = some (strOfNums (x3 ++ hexs (l.drop i))) := by
  intro d
  induction d with
  | zero =>
    intro k i x3 hi hk hx
    obtain ⟨k, rfl⟩ : ∃ m, k = m + 1 := ⟨k - 1, by omega⟩
    rw [octet_Hex.l0, if_neg (by omega), List.drop_eq_nil_of_le (by omega)]
    simp [hexs]
  | succ d ih =>
    intro k i x3 hi hk hx
    obtain ⟨k, rfl⟩ : ∃ m, k = m + 1 := ⟨k - 1, by omega⟩
    obtain ⟨h0, h1⟩ := hw _ (rd_mem l i (by omega))
    rw [octet_Hex.l0, if_pos (by omega), if_pos (by omega), if_pos (by omega), if_pos (by omega), if_pos (by omega), and15 _ h0 h1, if_pos (by omega), if_pos (by omega)]
    simp only [Option.bind_some]
    rw [if_pos (by simp only [List.length_cons, List.length_nil]; omega), show wrap64 ((i : Int) + 1) = ((i + 1 : Nat) : Int) from by unfold wrap64; omega, ih k (i + 1) _ (by omega) (by omega) (by simp only [List.length_append, List.length_cons, List.length_nil]; omega), drop_rd l i (by omega), List.append_assoc]
    rfl
theorem hex_spec (l : List Int) (k : Nat) (hw : ∀ x ∈ l, 0 ≤ x ∧ x < 256) (hl : l.length ≤ 1048576) (hk : l.length < k) : octet_Hex.f k l = some (strOfNums (hexs l)) := by
  unfold octet_Hex.f
  have e : wrap64 (2 * (l.length : Int)) = 2 * (l.length : Int) := by unfold wrap64; omega
  rw [e, if_pos (by omega), if_pos (by omega)]
  have := hex_l0 l hw hl l.length k 0 [] (by omega) hk (by simp)
  simpa using this
/-! ### Unhex -/
def Vd (a : ByteArray) (j : Nat) : Int := dvI (bt a (j : Int))
def Good (a : ByteArray) (i : Nat) : Prop := ∀ j, j < i → dv (bt a (j : Int)) ≠ none
theorem Vd_range {a : ByteArray} {i j : Nat} (h : Good a i) (hj : j < i) : 0 ≤ Vd a j ∧ Vd a j < 16 ∧ dv (bt a (j : Int)) = some (Vd a j) := by
  have h1 := h j hj
  unfold Vd dvI
  cases hd : dv (bt a (j : Int)) with
  | none => exact absurd hd h1
  | some v => exact ⟨(dv_range hd).1, (dv_range hd).2, rfl⟩
def stE (a : ByteArray) (i m : Nat) : Int := if 2 * m + 1 < i then 16 * Vd a (2 * m) + Vd a (2 * m + 1) else if 2 * m < i then Vd a (2 * m) else 0
def stL (a : ByteArray) (i : Nat) : List Int := (List.range (a.size / 2)).map (stE a i)
theorem stL_length (a : ByteArray) (i : Nat) : (stL a i).length = a.size / 2 := by simp [stL]
theorem stL_rd (a : ByteArray) (i m : Nat) (hm : m < a.size / 2) : rd (stL a i) (m : Int) = stE a i m := by
  simp [rd, stL, List.getD_eq_getElem?_getD, List.getElem?_map, List.getElem?_range hm]
theorem stL_set (a : ByteArray) (i : Nat) (h : Good a (i + 1)) (hi : i / 2 < a.size / 2) : (stL a i).set (i / 2) (Go.bits .or .u8 ((rd (stL a i) ((i / 2 : Nat) : Int) * 16) % 256) (Vd a i)) = stL a (i + 1) := by
  have hv := Vd_range h (Nat.lt_succ_self i)
  have hor : ∀ x : Int, 0 ≤ x → x < 16 → Go.bits .or .u8 ((x * 16) % 256) (Vd a i) = x * 16 + Vd a i := by
    intro x hx0 hx1
    obtain ⟨n, rfl⟩ := Int.eq_ofNat_of_zero_le hx0
    obtain ⟨v, hv'⟩ := Int.eq_ofNat_of_zero_le hv.1
    rw [hv'] at hv ⊢
    have this : Go.bits .or .u8 ((n * 16 : Nat) : Int) (v : Int) = ((n * 16 + v : Nat) : Int) := or16_all ⟨n, by omega⟩ ⟨v, by omega⟩
    rw [show ((n : Int) * 16) % 256 = ((n * 16 : Nat) : Int) from by omega]
    rw [this]
    omega
  rw [stL_rd a i _ hi]
  apply List.ext_getElem
  · simp [stL_length]
  · intro m h1 h2
    rw [List.getElem_set]
    have hm : m < a.size / 2 := by rw [stL_length] at h2; exact h2
    have e1 : (stL a i)[m]'(by rw [stL_length]; exact hm) = stE a i m := by simp [stL]
    have e2 : (stL a (i + 1))[m]'h2 = stE a (i + 1) m := by simp [stL]
    rw [e2]
    by_cases c : i / 2 = m
    · rw [if_pos c]
      subst c
      rcases Nat.mod_two_eq_zero_or_one i with hp | hp
      · have e0 : 2 * (i / 2) = i := by omega
        have s0 : stE a i (i / 2) = 0 := by unfold stE; rw [if_neg (by omega), if_neg (by omega)]
        rw [s0, hor 0 (by omega) (by omega)]
        unfold stE
        rw [if_neg (by omega), if_pos (by omega), e0]
        omega
      · have e0 : 2 * (i / 2) + 1 = i := by omega
        have hv2 := Vd_range h (show 2 * (i / 2) < i + 1 by omega)
        have s0 : stE a i (i / 2) = Vd a (2 * (i / 2)) := by unfold stE; rw [if_neg (by omega), if_pos (by omega)]
        rw [s0, hor _ hv2.1 hv2.2.1]
        unfold stE
        rw [if_pos (by omega), e0]
        omega
    · rw [if_neg c, e1]
      unfold stE
      repeat' split
      all_goals first | rfl | omega
theorem stL_keep (a : ByteArray) (i : Nat) (hi : ¬ i / 2 < a.size / 2) : stL a i = stL a (i + 1) := by
  apply List.map_congr_left
  intro m hm
  have hm2 := List.mem_range.1 hm
  unfold stE
  repeat' split
  all_goals first | rfl | omega
theorem unhex_run (a : ByteArray) (p : Nat) (hp : p ≤ a.size) (hg : Good a p) (hs : a.size ≤ 4000000) : ∀ (d k i : Nat), i + d = p → 4 ≤ k → octet_Unhex.l0 (k + d) a (stL a i) (a.size : Int) (i : Int) = octet_Unhex.l0 k a (stL a p) (a.size : Int) (p : Int) := by
  intro d
  induction d with
  | zero => intro k i hi _; rw [show i = p from by omega]; rfl
  | succ d ih =>
    intro k i hi hk
    have hv := Vd_range hg (show i < p by omega)
    have hbt := bt_range a (i : Int)
    have hdB : dvB (bt a (i : Int)) = (Vd a i, true) := by unfold dvB; rw [hv.2.2]
    rw [show k + (d + 1) = (k + d) + 1 from by omega, octet_Unhex.l0, if_pos (by omega), if_pos (by omega), if_pos (by omega), digit_spec _ (k + d) hbt.1 hbt.2 (by omega), Option.bind_some, hdB, if_pos rfl,
      show wrap64 (Int.tdiv (i : Int) 2) = ((i / 2 : Nat) : Int) from by rw [Int.tdiv_eq_ediv_of_nonneg (by omega)]; unfold wrap64; omega, stL_length, show wrap64 ((i : Int) + 1) = ((i + 1 : Nat) : Int) from by unfold wrap64; omega]
    by_cases c : i / 2 < a.size / 2
    · rw [if_pos (by omega), if_pos (by omega), Int.toNat_natCast]
      show octet_Unhex.l0 (k + d) a ((stL a i).set (i / 2) (Go.bits .or .u8 ((rd (stL a i) ((i / 2 : Nat) : Int) * 16) % 256) (Vd a i))) (a.size : Int) ((i + 1 : Nat) : Int) = _
      rw [stL_set a i (fun j hj => hg j (by omega)) c]
      exact ih k (i + 1) (by omega) hk
    · rw [if_neg (by omega), stL_keep a i c]
      exact ih k (i + 1) (by omega) hk
theorem unhex_start (a : ByteArray) (k : Nat) (hs : a.size ≤ 4000000) : octet_Unhex.f k a = octet_Unhex.l0 k a (stL a 0) (a.size : Int) 0 := by
  unfold octet_Unhex.f
  have e : wrap64 ((a.size : Int) / 2) = ((a.size / 2 : Nat) : Int) := by unfold wrap64; omega
  rw [e, if_pos (by omega), if_pos (by omega), Int.toNat_natCast]
  congr 1
  apply List.ext_getElem
  · simp [stL_length]
  · intro m h1 h2
    simp [stL, stE]
theorem unhex_good (a : ByteArray) (k : Nat) (hs : a.size ≤ 4000000) (hg : Good a a.size) (he : a.size % 2 = 0) (hk : a.size + 4 ≤ k) : octet_Unhex.f k a = some (stL a a.size, none) := by
  obtain ⟨m, rfl⟩ : ∃ m, k = (m + 1) + a.size := ⟨k - a.size - 1, by omega⟩
  have h := unhex_run a a.size (Nat.le_refl _) hg hs a.size (m + 1) 0 (by omega) (by omega)
  rw [unhex_start a _ hs]
  refine h.trans ?_
  rw [octet_Unhex.l0, if_neg (by omega), if_pos (by omega)]
theorem unhex_bad (a : ByteArray) (p k : Nat) (hs : a.size ≤ 4000000) (hp : p < a.size) (hg : Good a p) (hb : dv (bt a (p : Int)) = none) (hk : a.size + 6 ≤ k) : octet_Unhex.f k a = some ([], some ((p : Int) * 1024 + 161)) := by
  obtain ⟨m, rfl⟩ : ∃ m, k = (m + 1) + p := ⟨k - p - 1, by omega⟩
  have h := unhex_run a p (by omega) hg hs p (m + 1) 0 (by omega) (by omega)
  have hbt := bt_range a (p : Int)
  have hdB : dvB (bt a (p : Int)) = (0, false) := by unfold dvB; rw [hb]
  rw [unhex_start a _ hs]
  refine h.trans ?_
  rw [octet_Unhex.l0, if_pos (by omega), if_pos (by omega), if_pos (by omega), digit_spec _ m hbt.1 hbt.2 (by omega), Option.bind_some, hdB, if_neg (by decide)]
  unfold api_Wrap.f
  rw [if_pos (by omega)]
  rfl
theorem unhex_odd (a : ByteArray) (k : Nat) (hs : a.size ≤ 4000000) (hg : Good a a.size) (he : a.size % 2 = 1) (hk : a.size + 4 ≤ k) : octet_Unhex.f k a = some ([], some ((a.size : Int) * 1024 + 161)) := by
  obtain ⟨m, rfl⟩ : ∃ m, k = (m + 1) + a.size := ⟨k - a.size - 1, by omega⟩
  have h := unhex_run a a.size (Nat.le_refl _) hg hs a.size (m + 1) 0 (by omega) (by omega)
  rw [unhex_start a _ hs]
  refine h.trans ?_
  rw [octet_Unhex.l0, if_neg (by omega), if_neg (by omega)]
  unfold api_Wrap.f
  rw [if_pos (by omega)]
  rfl
theorem first_bad (a : ByteArray) (n : Nat) : Good a n ∨ ∃ p, p < n ∧ Good a p ∧ dv (bt a (p : Int)) = none := by
  induction n with
  | zero => exact .inl (fun j hj => by omega)
  | succ n ih =>
    rcases ih with h | ⟨p, h1, h2, h3⟩
    · cases hd : dv (bt a (n : Int)) with
      | none => exact .inr ⟨n, by omega, h, hd⟩
      | some v =>
        refine .inl (fun j hj => ?_)
        rcases Nat.lt_or_ge j n with c | c
        · exact h j c
        · rw [show j = n from by omega, hd]; simp
    · exact .inr ⟨p, by omega, h2, h3⟩

theorem refhex_l0 (l : List Int) (hw : ∀ x ∈ l, 0 ≤ x ∧ x < 256) (hl : l.length ≤ 1048576) : ∀ (d k i : Nat) (x3 : List Int), l.length = i + d → d < k → x3.length ≤ 2 * i → plumbref16_Hex.l0 k l x3 (i : Int) = some (strOfNums (x3 ++ hexs (l.drop i))) := by
  intro d
  induction d with
  | zero =>
    intro k i x3 hi hk hx
    obtain ⟨k, rfl⟩ : ∃ m, k = m + 1 := ⟨k - 1, by omega⟩
    rw [plumbref16_Hex.l0, if_neg (by omega), List.drop_eq_nil_of_le (by omega)]
    simp [hexs]
  | succ d ih =>
    intro k i x3 hi hk hx
    obtain ⟨k, rfl⟩ : ∃ m, k = m + 1 := ⟨k - 1, by omega⟩
    obtain ⟨h0, h1⟩ := hw _ (rd_mem l i (by omega))
    rw [plumbref16_Hex.l0, if_pos (by omega), if_pos (by omega), Int.tdiv_eq_ediv_of_nonneg h0, Int.tmod_eq_emod_of_nonneg h0, show rd l (i : Int) / 16 % 256 = rd l (i : Int) / 16 from by omega, if_pos (by omega), if_pos (by omega), if_pos (by omega), if_pos (by omega)]
    simp only [Option.bind_some]
    rw [if_pos (by simp only [List.length_cons, List.length_nil]; omega), show wrap64 ((i : Int) + 1) = ((i + 1 : Nat) : Int) from by unfold wrap64; omega, ih k (i + 1) _ (by omega) (by omega) (by simp only [List.length_append, List.length_cons, List.length_nil]; omega), drop_rd l i (by omega), List.append_assoc]
    rfl
theorem refhex_spec (l : List Int) (k : Nat) (hw : ∀ x ∈ l, 0 ≤ x ∧ x < 256) (hl : l.length ≤ 1048576) (hk : l.length < k) : plumbref16_Hex.f k l = some (strOfNums (hexs l)) := by
  unfold plumbref16_Hex.f
  have := refhex_l0 l hw hl l.length k 0 [] (by omega) hk (by simp)
  simpa using this
theorem refunhex_run (a : ByteArray) (p : Nat) (hp : p ≤ a.size) (hg : Good a p) (hs : a.size ≤ 4000000) : ∀ (d k i : Nat), i + d = p → 24 ≤ k → plumbref16_Unhex.l0 (k + d) a (i : Int) = plumbref16_Unhex.l0 k a (p : Int) := by
  intro d
  induction d with
  | zero => intro k i hi _; rw [show i = p from by omega]; rfl
  | succ d ih =>
    intro k i hi hk
    have hv := Vd_range hg (show i < p by omega)
    have hbt := bt_range a (i : Int)
    rw [show k + (d + 1) = (k + d) + 1 from by omega, plumbref16_Unhex.l0, if_pos (by omega), if_pos (by omega), value_spec _ (k + d) hbt.1 hbt.2 (by omega), Option.bind_some]
    show (if Vd a i < 0 then _ else _) = _
    rw [if_neg (by omega), show wrap64 ((i : Int) + 1) = ((i + 1 : Nat) : Int) from by unfold wrap64; omega]
    exact ih k (i + 1) (by omega) hk
theorem refunhex_l1 (a : ByteArray) (hg : Good a a.size) (he : a.size % 2 = 0) (hs : a.size ≤ 4000000) : ∀ (d k m : Nat), 2 * m + 2 * d = a.size → d + 24 ≤ k → plumbref16_Unhex.l1 k a ((List.range m).map (stE a a.size)) ((2 * m : Nat) : Int) = some (stL a a.size, 0, 0) := by
  intro d
  induction d with
  | zero =>
    intro k m hm hk
    obtain ⟨k, rfl⟩ : ∃ j, k = j + 1 := ⟨k - 1, by omega⟩
    rw [plumbref16_Unhex.l1, if_neg (by omega)]
    unfold stL
    rw [show m = a.size / 2 from by omega]
  | succ d ih =>
    intro k m hm hk
    obtain ⟨k, rfl⟩ : ∃ j, k = j + 1 := ⟨k - 1, by omega⟩
    have h0 := Vd_range hg (show 2 * m < a.size by omega)
    have h1 := Vd_range hg (show 2 * m + 1 < a.size by omega)
    have b0 := bt_range a ((2 * m : Nat) : Int)
    have b1 := bt_range a ((2 * m + 1 : Nat) : Int)
    have w1 : wrap64 (((2 * m : Nat) : Int) + 1) = ((2 * m + 1 : Nat) : Int) := by unfold wrap64; omega
    rw [plumbref16_Unhex.l1, if_pos (by omega), if_pos (by omega), value_spec _ k b0.1 b0.2 (by omega), Option.bind_some, w1, if_pos (by omega), if_pos (by omega), value_spec _ k b1.1 b1.2 (by omega), Option.bind_some, List.length_map, List.length_range, if_pos (by omega)]
    show plumbref16_Unhex.l1 k a ((List.range m).map (stE a a.size) ++ [wrap64 (wrap64 (16 * Vd a (2 * m)) + Vd a (2 * m + 1)) % 256]) (wrap64 (((2 * m : Nat) : Int) + 2)) = _
    have e1 : wrap64 (wrap64 (16 * Vd a (2 * m)) + Vd a (2 * m + 1)) % 256 = stE a a.size m := by
      unfold stE
      rw [if_pos (by omega), show wrap64 (16 * Vd a (2 * m)) = 16 * Vd a (2 * m) from by unfold wrap64; omega, show wrap64 (16 * Vd a (2 * m) + Vd a (2 * m + 1)) = 16 * Vd a (2 * m) + Vd a (2 * m + 1) from by unfold wrap64; omega]
      omega
    have e2 : (List.range m).map (stE a a.size) ++ [stE a a.size m] = (List.range (m + 1)).map (stE a a.size) := by rw [List.range_succ, List.map_append]; rfl
    rw [e1, e2, show wrap64 (((2 * m : Nat) : Int) + 2) = ((2 * (m + 1) : Nat) : Int) from by unfold wrap64; omega]
    exact ih k (m + 1) (by omega) (by omega)
theorem refunhex_good (a : ByteArray) (k : Nat) (hs : a.size ≤ 4000000) (hg : Good a a.size) (he : a.size % 2 = 0) (hk : 2 * a.size + 30 ≤ k) : plumbref16_Unhex.f k a = some (stL a a.size, 0, 0) := by
  obtain ⟨m, rfl⟩ : ∃ m, k = (m + 1) + a.size := ⟨k - a.size - 1, by omega⟩
  have h := refunhex_run a a.size (Nat.le_refl _) hg hs a.size (m + 1) 0 (by omega) (by omega)
  unfold plumbref16_Unhex.f
  refine h.trans ?_
  rw [plumbref16_Unhex.l0, if_neg (by omega), if_neg (by omega)]
  exact refunhex_l1 a hg he hs (a.size / 2) m 0 (by omega) (by omega)
theorem refunhex_bad (a : ByteArray) (p k : Nat) (hs : a.size ≤ 4000000) (hp : p < a.size) (hg : Good a p) (hb : dv (bt a (p : Int)) = none) (hk : 2 * a.size + 30 ≤ k) : plumbref16_Unhex.f k a = some ([], 161, (p : Int)) := by
  obtain ⟨m, rfl⟩ : ∃ m, k = (m + 1) + p := ⟨k - p - 1, by omega⟩
  have h := refunhex_run a p (by omega) hg hs p (m + 1) 0 (by omega) (by omega)
  have hbt := bt_range a (p : Int)
  have hd : dvI (bt a (p : Int)) = -1 := by unfold dvI; rw [hb]
  unfold plumbref16_Unhex.f
  refine h.trans ?_
  rw [plumbref16_Unhex.l0, if_pos (by omega), if_pos (by omega), value_spec _ m hbt.1 hbt.2 (by omega), Option.bind_some, hd, if_pos (by omega)]
theorem refunhex_odd (a : ByteArray) (k : Nat) (hs : a.size ≤ 4000000) (hg : Good a a.size) (he : a.size % 2 = 1) (hk : 2 * a.size + 30 ≤ k) : plumbref16_Unhex.f k a = some ([], 161, (a.size : Int)) := by
  obtain ⟨m, rfl⟩ : ∃ m, k = (m + 1) + a.size := ⟨k - a.size - 1, by omega⟩
  have h := refunhex_run a a.size (Nat.le_refl _) hg hs a.size (m + 1) 0 (by omega) (by omega)
  unfold plumbref16_Unhex.f
  refine h.trans ?_
  rw [plumbref16_Unhex.l0, if_neg (by omega), if_pos (by omega)]

theorem unhex_both (a : ByteArray) (k : Nat) (hs : a.size ≤ 4000000) (hk : 2 * a.size + 30 ≤ k) : ∃ L x code at_, octet_Unhex.f k a = some (L, x) ∧ plumbref16_Unhex.f k a = some (L, code, at_) ∧ sameV x code at_ = true ∧ L.length ≤ a.size := by
  rcases first_bad a a.size with hg | ⟨p, hp, hg, hb⟩
  · rcases Nat.mod_two_eq_zero_or_one a.size with he | he
    · exact ⟨_, _, _, _, unhex_good a k hs hg he (by omega), refunhex_good a k hs hg he hk, rfl, by rw [stL_length]; omega⟩
    · refine ⟨_, _, _, _, unhex_odd a k hs hg he (by omega), refunhex_odd a k hs hg he hk, ?_, by simp⟩
      unfold sameV
      rw [if_neg (by omega)]
      simp only [Bool.and_eq_true, decide_eq_true_eq]
      omega
  · refine ⟨_, _, _, _, unhex_bad a p k hs hp hg hb (by omega), refunhex_bad a p k hs hp hg hb hk, ?_, by simp⟩
    unfold sameV
    rw [if_neg (by omega)]
    simp only [Bool.and_eq_true, decide_eq_true_eq]
    omega
theorem u8_range {x : Int} (h : (Lit.int .u8 x).wf = true) : 0 ≤ x ∧ x < 256 := by
  have : 0 ≤ x ∧ x ≤ 255 := by simpa [Lit.wf, IntKind.min, IntKind.max, IntKind.signed, IntKind.bits] using h
  omega
theorem OctetHex : plumblaw16_OctetHex.Pure := by
  intro b s h1 h2 hw hs
  have hl : b.length ≤ 1048576 := by omega
  have hw2 : ∀ x ∈ b, 0 ≤ x ∧ x < 256 := fun x hx => u8_range (hw x hx)
  obtain ⟨k, hk⟩ : ∃ k : Nat, b.length + 2 * s.size + 100 < k := ⟨b.length + 2 * s.size + 101, by omega⟩
  refine ⟨k + 1, ?_⟩
  unfold plumblaw16_OctetHex.f
  have hlen : (b ++ [77, 88]).length = b.length + 2 := by simp
  rw [lent_spec b (by omega), Option.bind_some, hlen, if_pos (by omega), if_pos (by omega), Int.toNat_natCast, List.take_left, hex_spec b (k + 1) hw2 hl (by omega), Option.bind_some, refhex_spec b (k + 1) hw2 hl (by omega), Option.bind_some, if_pos rfl, kept_spec b (k + 1) (by omega) (by omega), Option.bind_some,
    plumblaw16_OctetHex.j0, if_neg (by decide)]
  obtain ⟨L, x, code, at_, e1, e2, e3, e4⟩ := unhex_both s k (by omega) (by omega)
  rw [e1, Option.bind_some, e2, Option.bind_some]
  show (plumblaw16_same.f k L L).bind _ = _
  rw [same_spec L L k rfl (by omega) (by omega), Option.bind_some, if_pos rfl]
  unfold plumblaw16_sameErr.f
  rw [Option.bind_some, e3]

end Go.Proofs.YtenomaibgpbonaaDoor.Pure
