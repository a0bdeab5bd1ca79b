/- The law plumblaw16.OctetDigits, told as a function over whole numbers, lists and texts, answers true at every list of bytes, text, place and byte of at most 1048576 each. No other condition. -/
import Derived.Test.YtenomaibgpbonaaDoorPOctetDigitsx3
import Derived.Test.YtenomaibgpbonaaDoorMath
namespace Go.Proofs.YtenomaibgpbonaaDoor.Pure
open Go.RowKit Go.Proofs.YtenomaibgpbonaaDoor.POctetDigits Go.Proofs.YtenomaibgpbonaaDoorW.PrintWords Go.Proofs.YtenomaibgpbonaaDoorW.PrintLast Go.Proofs.YtenomaibgpbonaaDoorW.PrintMore Go.Proofs.YtenomaibgpbonaaDoor.Math

theorem same_l0 (xs : List Int) (hl : xs.length ≤ 140737488355328) (d : Nat) : ∀ k i : Nat, xs.length = i + d → d < k → plumblaw16_same.l0 k xs xs (i : Int) = some true := by
  induction d with
  | zero =>
    intro k i h hk
    obtain ⟨k, rfl⟩ : ∃ m, k = m + 1 := ⟨k - 1, by omega⟩
    simp only [plumblaw16_same.l0]
    rw [if_neg (by omega)]
  | succ d ih =>
    intro k i h hk
    obtain ⟨k, rfl⟩ : ∃ m, k = m + 1 := ⟨k - 1, by omega⟩
    simp only [plumblaw16_same.l0]
    rw [if_pos (by omega), if_pos (by omega), if_pos (by omega), if_pos trivial, show wrap64 ((i : Int) + 1) = ((i + 1 : Nat) : Int) from by unfold wrap64; omega]
    exact ih k (i + 1) (by omega) (by omega)
theorem same_spec (xs ys : List Int) (k : Nat) (e : ys = xs) (hl : xs.length ≤ 140737488355328) (hk : xs.length < k) : plumblaw16_same.f k xs ys = some true := by
  subst e
  unfold plumblaw16_same.f
  rw [if_pos rfl]
  exact same_l0 ys hl ys.length k 0 (by omega) hk

/-- A hex digit's value. -/
def dv (c : Int) : Option Int := if 48 ≤ c ∧ c ≤ 57 then some (c - 48) else if 97 ≤ c ∧ c ≤ 102 then some (c - 87) else if 65 ≤ c ∧ c ≤ 70 then some (c - 55) else none
def dvB (c : Int) : Int × Bool := match dv c with
  | some v => (v, true)
  | none => (0, false)
def dvI (c : Int) : Int := match dv c with
  | some v => v
  | none => -1
theorem lift_k {α : Type} {g : Nat → Option α} (h : ∀ k, LeO (g k) (g (k + 1))) {r : α} {k : Nat} (e : g k = some r) : ∀ m, k ≤ m → g m = some r := by
  intro m hm
  induction m with
  | zero => rw [Nat.le_zero.1 hm] at e; exact e
  | succ m ih =>
    rcases Nat.lt_or_ge k (m + 1) with h1 | h1
    · exact h m r (ih (by omega))
    · rw [show k = m + 1 from by omega] at e; exact e
theorem digit_all : ∀ c : Fin 256, octet_digit.f 4 ((c.val : Nat) : Int) = some (dvB ((c.val : Nat) : Int)) := by decide +kernel
theorem digit_spec (c : Int) (k : Nat) (h0 : 0 ≤ c) (h1 : c < 256) (hk : 4 ≤ k) : octet_digit.f k c = some (dvB c) := by
  obtain ⟨n, rfl⟩ := Int.eq_ofNat_of_zero_le h0
  exact lift_k (fun k => octet_digit.mono (n : Int) k) (digit_all ⟨n, by omega⟩) k hk
theorem and15_all : ∀ c : Fin 256, Go.bits .and .u8 ((c.val : Nat) : Int) 15 = ((c.val : Nat) : Int) % 16 := by decide +kernel
theorem and15 (c : Int) (h0 : 0 ≤ c) (h1 : c < 256) : Go.bits .and .u8 c 15 = c % 16 := by
  obtain ⟨n, rfl⟩ := Int.eq_ofNat_of_zero_le h0
  exact and15_all ⟨n, by omega⟩
theorem or16_all : ∀ c d : Fin 16, Go.bits .or .u8 ((c.val * 16 : Nat) : Int) ((d.val : Nat) : Int) = ((c.val * 16 + d.val : Nat) : Int) := by decide +kernel
theorem dv_range {c v : Int} (h : dv c = some v) : 0 ≤ v ∧ v < 16 := by
  unfold dv at h
  repeat' split at h
  all_goals first | (simp only [Option.some.injEq] at h; omega) | cases h

theorem bt_range (a : ByteArray) (i : Int) : 0 ≤ bt a i ∧ bt a i < 256 := by
  unfold bt
  split
  · exact ⟨by omega, by have := (a[i.toNat]).toNat_lt; omega⟩
  · omega
theorem drop_rd (l : List Int) (i : Nat) (h : i < l.length) : l.drop i = rd l (i : Int) :: l.drop (i + 1) := by
  rw [List.drop_eq_getElem_cons h]
  congr 1
  simp [rd, List.getD_eq_getElem?_getD, List.getElem?_eq_getElem h]
theorem rd_mem (l : List Int) (i : Nat) (h : i < l.length) : rd l (i : Int) ∈ l := by
  simp [rd, List.getD_eq_getElem?_getD, List.getElem?_eq_getElem h]
def hexOf (b : Int) : List Int := [bt (⟨#[48, 49, 50, 51, 52, 53, 54, 55, 56, 57, 97, 98, 99, 100, 101, 102]⟩ : ByteArray) (b / 16), bt (⟨#[48, 49, 50, 51, 52, 53, 54, 55, 56, 57, 97, 98, 99, 100, 101, 102]⟩ : ByteArray) (b % 16)]
def hexs (l : List Int) : List Int := l.flatMap hexOf
theorem hexs_length (l : List Int) : (hexs l).length = 2 * l.length := by
  induction l with
  | nil => rfl
  | cons x l ih => simp only [hexs, List.flatMap_cons, List.length_append, List.length_cons] at ih ⊢; rw [ih]; simp [hexOf]; omega
theorem hex_l0 (l : List Int) (hw : ∀ x ∈ l, 0 ≤ x ∧ x < 256) (hl : l.length ≤ 1048576) : ∀ (d k i : Nat) (x3 : List Int), l.length = i + d → d < k → x3.length ≤ 2 * i → octet_Hex.l0 k x3 l (l.length : Int) (i : Int) = some (strOfNums (x3 ++ hexs (l.drop i))) := by
  intro d
  induction d with
  | zero =>
    intro k i x3 hi hk hx
    obtain ⟨k, rfl⟩ : ∃ m, k = m + 1 := ⟨k - 1, by omega⟩
    rw [octet_Hex.l0, if_neg (by omega), List.drop_eq_nil_of_le (by omega)]
    simp [hexs]
  | succ d ih =>
    intro k i x3 hi hk hx
    obtain ⟨k, rfl⟩ : ∃ m, k = m + 1 := ⟨k - 1, by omega⟩
    obtain ⟨h0, h1⟩ := hw _ (rd_mem l i (by omega))
    rw [octet_Hex.l0, if_pos (by omega), if_pos (by omega), if_pos (by omega), if_pos (by omega), if_pos (by omega), and15 _ h0 h1, if_pos (by omega), if_pos (by omega)]
    simp only [Option.bind_some]
    rw [if_pos (by simp only [List.length_cons, List.length_nil]; omega), show wrap64 ((i : Int) + 1) = ((i + 1 : Nat) : Int) from by unfold wrap64; omega, ih k (i + 1) _ (by omega) (by omega) (by simp only [List.length_append, List.length_cons, List.length_nil]; omega), drop_rd l i (by omega), List.append_assoc]
    rfl
theorem hex_spec (l : List Int) (k : Nat) (hw : ∀ x ∈ l, 0 ≤ x ∧ x < 256) (hl : l.length ≤ 1048576) (hk : l.length < k) : octet_Hex.f k l = some (strOfNums (hexs l)) := by
  unfold octet_Hex.f
  have e : wrap64 (2 * (l.length : Int)) = 2 * (l.length : Int) := by unfold wrap64; omega
  rw [e, if_pos (by omega), if_pos (by omega)]
  have := hex_l0 l hw hl l.length k 0 [] (by omega) hk (by simp)
  simpa using this
/-! ### Unhex -/
def Vd (a : ByteArray) (j : Nat) : Int := dvI (bt a (j : Int))
def Good (a : ByteArray) (i : Nat) : Prop := ∀ j, j < i → dv (bt a (j : Int)) ≠ none
theorem Vd_range {a : ByteArray} {i j : Nat} (h : Good a i) (hj : j < i) : 0 ≤ Vd a j ∧ Vd a j < 16 ∧ dv (bt a (j : Int)) = some (Vd a j) := by
  have h1 := h j hj
  unfold Vd dvI
  cases hd : dv (bt a (j : Int)) with
  | none => exact absurd hd h1
  | some v => exact ⟨(dv_range hd).1, (dv_range hd).2, rfl⟩
def stE (a : ByteArray) (i m : Nat) : Int := if 2 * m + 1 < i then 16 * Vd a (2 * m) + Vd a (2 * m + 1) else if 2 * m < i then Vd a (2 * m) else 0
def stL (a : ByteArray) (i : Nat) : List Int := (List.range (a.size / 2)).map (stE a i)
theorem stL_length (a : ByteArray) (i : Nat) : (stL a i).length = a.size / 2 := by simp [stL]
theorem stL_rd (a : ByteArray) (i m : Nat) (hm : m < a.size / 2) : rd (stL a i) (m : Int) = stE a i m := by
  simp [rd, stL, List.getD_eq_getElem?_getD, List.getElem?_map, List.getElem?_range hm]
theorem stL_set (a : ByteArray) (i : Nat) (h : Good a (i + 1)) (hi : i / 2 < a.size / 2) : (stL a i).set (i / 2) (Go.bits .or .u8 ((rd (stL a i) ((i / 2 : Nat) : Int) * 16) % 256) (Vd a i)) = stL a (i + 1) := by
  have hv := Vd_range h (Nat.lt_succ_self i)
  have hor : ∀ x : Int, 0 ≤ x → x < 16 → Go.bits .or .u8 ((x * 16) % 256) (Vd a i) = x * 16 + Vd a i := by
    intro x hx0 hx1
    obtain ⟨n, rfl⟩ := Int.eq_ofNat_of_zero_le hx0
    obtain ⟨v, hv'⟩ := Int.eq_ofNat_of_zero_le hv.1
    rw [hv'] at hv ⊢
    have this : Go.bits .or .u8 ((n * 16 : Nat) : Int) (v : Int) = ((n * 16 + v : Nat) : Int) := or16_all ⟨n, by omega⟩ ⟨v, by omega⟩
    rw [show ((n : Int) * 16) % 256 = ((n * 16 : Nat) : Int) from by omega]
    rw [this]
    omega
  rw [stL_rd a i _ hi]
  apply List.ext_getElem
  · simp [stL_length]
  · intro m h1 h2
    rw [List.getElem_set]
    have hm : m < a.size / 2 := by rw [stL_length] at h2; exact h2
    have e1 : (stL a i)[m]'(by rw [stL_length]; exact hm) = stE a i m := by simp [stL]
    have e2 : (stL a (i + 1))[m]'h2 = stE a (i + 1) m := by simp [stL]
    rw [e2]
    by_cases c : i / 2 = m
    · rw [if_pos c]
      subst c
      rcases Nat.mod_two_eq_zero_or_one i with hp | hp
      · have e0 : 2 * (i / 2) = i := by omega
        have s0 : stE a i (i / 2) = 0 := by unfold stE; rw [if_neg (by omega), if_neg (by omega)]
        rw [s0, hor 0 (by omega) (by omega)]
        unfold stE
        rw [if_neg (by omega), if_pos (by omega), e0]
        omega
      · have e0 : 2 * (i / 2) + 1 = i := by omega
        have hv2 := Vd_range h (show 2 * (i / 2) < i + 1 by omega)
        have s0 : stE a i (i / 2) = Vd a (2 * (i / 2)) := by unfold stE; rw [if_neg (by omega), if_pos (by omega)]
        rw [s0, hor _ hv2.1 hv2.2.1]
        unfold stE
        rw [if_pos (by omega), e0]
        omega
    · rw [if_neg c, e1]
      unfold stE
      repeat' split
      all_goals first | rfl | omega
theorem stL_keep (a : ByteArray) (i : Nat) (hi : ¬ i / 2 < a.size / 2) : stL a i = stL a (i + 1) := by
  apply List.map_congr_left
  intro m hm
  have hm2 := List.mem_range.1 hm
  unfold stE
  repeat' split
  all_goals first | rfl | omega
theorem unhex_run (a : ByteArray) (p : Nat) (hp : p ≤ a.size) (hg : Good a p) (hs : a.size ≤ 4000000) : ∀ (d k i : Nat), i + d = p → 4 ≤ k → octet_Unhex.l0 (k + d) a (stL a i) (a.size : Int) (i : Int) = octet_Unhex.l0 k a (stL a p) (a.size : Int) (p : Int) := by
  intro d
  induction d with
  | zero => intro k i hi _; rw [show i = p from by omega]; rfl
  | succ d ih =>
    intro k i hi hk
    have hv := Vd_range hg (show i < p by omega)
    have hbt := bt_range a (i : Int)
    have hdB : dvB (bt a (i : Int)) = (Vd a i, true) := by unfold dvB; rw [hv.2.2]
    rw [show k + (d + 1) = (k + d) + 1 from by omega, octet_Unhex.l0, if_pos (by omega), if_pos (by omega), if_pos (by omega), digit_spec _ (k + d) hbt.1 hbt.2 (by omega), Option.bind_some, hdB, if_pos rfl,
      show wrap64 (Int.tdiv (i : Int) 2) = ((i / 2 : Nat) : Int) from by rw [Int.tdiv_eq_ediv_of_nonneg (by omega)]; unfold wrap64; omega, stL_length, show wrap64 ((i : Int) + 1) = ((i + 1 : Nat) : Int) from by unfold wrap64; omega]
    by_cases c : i / 2 < a.size / 2
    · rw [if_pos (by omega), if_pos (by omega), Int.toNat_natCast]
      show octet_Unhex.l0 (k + d) a ((stL a i).set (i / 2) (Go.bits .or .u8 ((rd (stL a i) ((i / 2 : Nat) : Int) * 16) % 256) (Vd a i))) (a.size : Int) ((i + 1 : Nat) : Int) = _
      rw [stL_set a i (fun j hj => hg j (by omega)) c]
      exact ih k (i + 1) (by omega) hk
    · rw [if_neg (by omega), stL_keep a i c]
      exact ih k (i + 1) (by omega) hk
theorem unhex_start (a : ByteArray) (k : Nat) (hs : a.size ≤ 4000000) : octet_Unhex.f k a = octet_Unhex.l0 k a (stL a 0) (a.size : Int) 0 := by
  unfold octet_Unhex.f
  have e : wrap64 ((a.size : Int) / 2) = ((a.size / 2 : Nat) : Int) := by unfold wrap64; omega
  rw [e, if_pos (by omega), if_pos (by omega), Int.toNat_natCast]
  congr 1
  apply List.ext_getElem
  · simp [stL_length]
  · intro m h1 h2
    simp [stL, stE]
theorem unhex_good (a : ByteArray) (k : Nat) (hs : a.size ≤ 4000000) (hg : Good a a.size) (he : a.size % 2 = 0) (hk : a.size + 4 ≤ k) : octet_Unhex.f k a = some (stL a a.size, none) := by
  obtain ⟨m, rfl⟩ : ∃ m, k = (m + 1) + a.size := ⟨k - a.size - 1, by omega⟩
  have h := unhex_run a a.size (Nat.le_refl _) hg hs a.size (m + 1) 0 (by omega) (by omega)
  rw [unhex_start a _ hs]
  refine h.trans ?_
  rw [octet_Unhex.l0, if_neg (by omega), if_pos (by omega)]
theorem unhex_bad (a : ByteArray) (p k : Nat) (hs : a.size ≤ 4000000) (hp : p < a.size) (hg : Good a p) (hb : dv (bt a (p : Int)) = none) (hk : a.size + 6 ≤ k) : octet_Unhex.f k a = some ([], some ((p : Int) * 1024 + 161)) := by
  obtain ⟨m, rfl⟩ : ∃ m, k = (m + 1) + p := ⟨k - p - 1, by omega⟩
  have h := unhex_run a p (by omega) hg hs p (m + 1) 0 (by omega) (by omega)
  have hbt := bt_range a (p : Int)
  have hdB : dvB (bt a (p : Int)) = (0, false) := by unfold dvB; rw [hb]
  rw [unhex_start a _ hs]
  refine h.trans ?_
  rw [octet_Unhex.l0, if_pos (by omega), if_pos (by omega), if_pos (by omega), digit_spec _ m hbt.1 hbt.2 (by omega), Option.bind_some, hdB, if_neg (by decide)]
  unfold api_Wrap.f
  rw [if_pos (by omega)]
  rfl
theorem unhex_odd (a : ByteArray) (k : Nat) (hs : a.size ≤ 4000000) (hg : Good a a.size) (he : a.size % 2 = 1) (hk : a.size + 4 ≤ k) : octet_Unhex.f k a = some ([], some ((a.size : Int) * 1024 + 161)) := by
  obtain ⟨m, rfl⟩ : ∃ m, k = (m + 1) + a.size := ⟨k - a.size - 1, by omega⟩
  have h := unhex_run a a.size (Nat.le_refl _) hg hs a.size (m + 1) 0 (by omega) (by omega)
  rw [unhex_start a _ hs]
  refine h.trans ?_
  rw [octet_Unhex.l0, if_neg (by omega), if_neg (by omega)]
  unfold api_Wrap.f
  rw [if_pos (by omega)]
  rfl
theorem first_bad (a : ByteArray) (n : Nat) : Good a n ∨ ∃ p, p < n ∧ Good a p ∧ dv (bt a (p : Int)) = none := by
  induction n with
  | zero => exact .inl (fun j hj => by omega)
  | succ n ih =>
    rcases ih with h | ⟨p, h1, h2, h3⟩
    · cases hd : dv (bt a (n : Int)) with
      | none => exact .inr ⟨n, by omega, h, hd⟩
      | some v =>
        refine .inl (fun j hj => ?_)
        rcases Nat.lt_or_ge j n with c | c
        · exact h j c
        · rw [show j = n from by omega, hd]; simp
    · exact .inr ⟨p, by omega, h2, h3⟩

/-! ### texts of numbers -/
theorem str_bt (l : List Int) (j : Nat) (h : j < l.length) (hw : ∀ x ∈ l, 0 ≤ x ∧ x < 256) : bt (strOfNums l) (j : Int) = rd l (j : Int) := by
  have hr := hw _ (rd_mem l j h)
  unfold bt
  rw [dif_pos (by rw [Int.toNat_natCast, strOfNums_size]; exact h)]
  simp only [Int.toNat_natCast, rd, List.getD_eq_getElem?_getD, List.getElem?_eq_getElem h, Option.getD_some] at hr ⊢
  have : ((strOfNums l)[j]'(by rw [strOfNums_size]; exact h)) = UInt8.ofNat (l[j]).toNat := by simp [strOfNums, ByteArray.getElem_eq_getElem_data]
  rw [this]
  simp
  omega
theorem str_append (l m : List Int) : strOfNums l ++ strOfNums m = strOfNums (l ++ m) := by
  apply ByteArray.ext
  rw [ByteArray.data_append]
  simp [strOfNums]
theorem str_extract (l : List Int) (i j : Nat) (_hj : j ≤ l.length) : (strOfNums l).extract i j = strOfNums ((l.take j).drop i) := by
  apply ByteArray.ext
  rw [ByteArray.data_extract]
  apply Array.ext'
  simp [strOfNums, List.extract_eq_take_drop, List.map_take, List.map_drop, List.drop_take]
theorem str_zero : (⟨#[48]⟩ : ByteArray) = strOfNums [48] := by rfl
def dD (v : Int) : Int := bt (⟨#[48, 49, 50, 51, 52, 53, 54, 55, 56, 57, 97, 98, 99, 100, 101, 102]⟩ : ByteArray) v
theorem dD_all : ∀ v : Fin 16, dv (dD ((v.val : Nat) : Int)) = some ((v.val : Nat) : Int) := by decide +kernel
theorem dD_dv (v : Int) (h0 : 0 ≤ v) (h1 : v < 16) : dv (dD v) = some v := by
  obtain ⟨n, rfl⟩ := Int.eq_ofNat_of_zero_le h0
  exact dD_all ⟨n, by omega⟩
def lowC (c : Int) : Int := if 65 ≤ c ∧ c ≤ 70 then c + 32 else c
theorem low_all : ∀ c : Fin 256, (match dv ((c.val : Nat) : Int) with | some v => decide (dD v = lowC ((c.val : Nat) : Int)) | none => true) = true := by decide +kernel
theorem low_dv (c v : Int) (h0 : 0 ≤ c) (h1 : c < 256) (h : dv c = some v) : dD v = lowC c := by
  obtain ⟨n, rfl⟩ := Int.eq_ofNat_of_zero_le h0
  have := low_all ⟨n, by omega⟩
  simp only [h, decide_eq_true_eq] at this
  exact this
theorem pairs (f : Nat → Int) (m : Nat) : (List.range m).flatMap (fun i => [f (2 * i), f (2 * i + 1)]) = (List.range (2 * m)).map f := by
  induction m with
  | zero => rfl
  | succ m ih =>
    rw [List.range_succ, List.flatMap_append, ih, show 2 * (m + 1) = 2 * m + 1 + 1 from by omega, List.range_succ, List.range_succ]
    simp
theorem self_map (b : List Int) : b = (List.range b.length).map (fun (i : Nat) => rd b (i : Int)) := by
  apply List.ext_getElem
  · simp
  · intro i h1 h2
    simp [rd, List.getD_eq_getElem?_getD, List.getElem?_eq_getElem h1]
/-- The digit at a place of the bytes' text. -/
def hd (b : List Int) (j : Nat) : Int := if j % 2 = 0 then rd b ((j / 2 : Nat) : Int) / 16 else rd b ((j / 2 : Nat) : Int) % 16
theorem hexs_map (b : List Int) : hexs b = (List.range (2 * b.length)).map (fun j => dD (hd b j)) := by
  rw [← pairs]
  conv => lhs; rw [self_map b]
  unfold hexs
  rw [List.flatMap_map]
  congr 1
  funext i
  simp only [hexOf, hd, dD]
  rw [if_pos (by omega), if_neg (by omega), show 2 * i / 2 = i from by omega, show (2 * i + 1) / 2 = i from by omega]
theorem hd_range (b : List Int) (j : Nat) (hw : ∀ x ∈ b, 0 ≤ x ∧ x < 256) (hj : j < 2 * b.length) : 0 ≤ hd b j ∧ hd b j < 16 := by
  have := hw _ (rd_mem b (j / 2) (by omega))
  unfold hd
  split <;> omega
theorem hexs_rd (b : List Int) (j : Nat) (hj : j < 2 * b.length) : rd (hexs b) (j : Int) = dD (hd b j) := by
  rw [hexs_map]
  simp [rd, List.getD_eq_getElem?_getD, List.getElem?_map, List.getElem?_range hj]
theorem hexs_byte (b : List Int) : ∀ x ∈ hexs b, 0 ≤ x ∧ x < 256 := by
  intro x hx
  rw [hexs_map] at hx
  obtain ⟨j, _, rfl⟩ := List.mem_map.1 hx
  exact bt_range _ _
theorem good_str (l : List Int) (i : Nat) (hi : i ≤ l.length) (hw : ∀ x ∈ l, 0 ≤ x ∧ x < 256) (h : ∀ j, j < i → dv (rd l (j : Int)) ≠ none) : Good (strOfNums l) i := by
  intro j hj
  rw [str_bt l j (by omega) hw]
  exact h j hj
theorem unhex_hexs (b : List Int) (k : Nat) (hw : ∀ x ∈ b, 0 ≤ x ∧ x < 256) (hl : b.length ≤ 1048576) (hk : 2 * b.length + 10 < k) : octet_Unhex.f k (strOfNums (hexs b)) = some (b, none) := by
  have hs : (strOfNums (hexs b)).size = 2 * b.length := by rw [strOfNums_size, hexs_length]
  have hv : ∀ j, j < 2 * b.length → bt (strOfNums (hexs b)) (j : Int) = dD (hd b j) := fun j hj => by
    rw [str_bt _ j (by rw [hexs_length]; exact hj) (hexs_byte b), hexs_rd b j hj]
  have hdv : ∀ j, j < 2 * b.length → dv (bt (strOfNums (hexs b)) (j : Int)) = some (hd b j) := fun j hj => by
    obtain ⟨h0, h1⟩ := hd_range b j hw hj
    rw [hv j hj, dD_dv _ h0 h1]
  have hg : Good (strOfNums (hexs b)) (strOfNums (hexs b)).size := fun j hj => by
    rw [hs] at hj
    rw [hdv j hj]
    simp
  rw [unhex_good (strOfNums (hexs b)) k (by omega) hg (by omega) (by omega)]
  have e : stL (strOfNums (hexs b)) (strOfNums (hexs b)).size = b := by
    apply List.ext_getElem
    · rw [stL_length, hs]; omega
    · intro m h1 h2
      have hVd : ∀ j, j < 2 * b.length → Vd (strOfNums (hexs b)) j = hd b j := fun j hj => by unfold Vd dvI; rw [hdv j hj]
      have : (stL (strOfNums (hexs b)) (strOfNums (hexs b)).size)[m]'h1 = stE (strOfNums (hexs b)) (strOfNums (hexs b)).size m := by simp [stL]
      rw [this]
      unfold stE
      rw [hs, if_pos (by omega), hVd (2 * m) (by omega), hVd (2 * m + 1) (by omega)]
      have hr : rd b (m : Int) = b[m] := by simp [rd, List.getD_eq_getElem?_getD, List.getElem?_eq_getElem h2]
      unfold hd
      rw [if_pos (by omega), if_neg (by omega), show 2 * m / 2 = m from by omega, show (2 * m + 1) / 2 = m from by omega, hr]
      omega
  rw [e]
theorem lower_l0 (s : ByteArray) (hs : s.size ≤ 1048576) : ∀ (d k i : Nat), i + d = s.size → d < k → plumblaw16_lower.l0 k s ((List.range i).map (fun j => lowC (bt s ((j : Nat) : Int)))) (i : Int) = some (strOfNums ((List.range s.size).map (fun j => lowC (bt s ((j : Nat) : Int))))) := by
  intro d
  induction d with
  | zero =>
    intro k i hi hk
    obtain ⟨k, rfl⟩ : ∃ m, k = m + 1 := ⟨k - 1, by omega⟩
    rw [plumblaw16_lower.l0, if_neg (by omega), show i = s.size from by omega]
  | succ d ih =>
    intro k i hi hk
    obtain ⟨k, rfl⟩ : ∃ m, k = m + 1 := ⟨k - 1, by omega⟩
    have hb := bt_range s (i : Int)
    have ew : wrap64 ((i : Int) + 1) = ((i + 1 : Nat) : Int) := by unfold wrap64; omega
    have hl : ((List.range i).map (fun j => lowC (bt s ((j : Nat) : Int)))).length = i := by simp
    have e1 : ∀ x, x = lowC (bt s (i : Int)) → ((List.range i).map (fun j => lowC (bt s ((j : Nat) : Int)))) ++ [x] = (List.range (i + 1)).map (fun j => lowC (bt s ((j : Nat) : Int))) := fun x hx => by rw [hx, List.range_succ, List.map_append]; rfl
    rw [plumblaw16_lower.l0, if_pos (by omega), if_pos (by omega), ew, hl]
    by_cases c1 : bt s (i : Int) ≥ 65
    · rw [if_pos c1]
      by_cases c2 : bt s (i : Int) ≤ 70
      · rw [if_pos c2, if_pos (by omega), e1 _ (by unfold lowC; rw [if_pos ⟨c1, c2⟩]; omega)]
        exact ih k (i + 1) (by omega) (by omega)
      · rw [if_neg c2, if_pos (by omega), e1 _ (by unfold lowC; rw [if_neg (by omega)])]
        exact ih k (i + 1) (by omega) (by omega)
    · rw [if_neg c1, if_pos (by omega), e1 _ (by unfold lowC; rw [if_neg (by omega)])]
      exact ih k (i + 1) (by omega) (by omega)
theorem lower_spec (s : ByteArray) (k : Nat) (hs : s.size ≤ 1048576) (hk : s.size < k) : plumblaw16_lower.f k s = some (strOfNums ((List.range s.size).map (fun j => lowC (bt s ((j : Nat) : Int))))) :=
  lower_l0 s hs s.size k 0 (by omega) hk
theorem hexs_stL (s : ByteArray) (hg : Good s s.size) (he : s.size % 2 = 0) : hexs (stL s s.size) = (List.range s.size).map (fun j => lowC (bt s ((j : Nat) : Int))) := by
  unfold hexs stL
  rw [List.flatMap_map]
  have e : s.size = 2 * (s.size / 2) := by omega
  conv => rhs; rw [e]
  rw [← pairs (fun j => lowC (bt s ((j : Nat) : Int)))]
  rw [List.flatMap_def, List.flatMap_def]
  congr 1
  apply List.map_congr_left
  intro m hm
  have hm2 := List.mem_range.1 hm
  have h0 := Vd_range hg (show 2 * m < s.size by omega)
  have h1 := Vd_range hg (show 2 * m + 1 < s.size by omega)
  have b0 := bt_range s ((2 * m : Nat) : Int)
  have b1 := bt_range s ((2 * m + 1 : Nat) : Int)
  have hE : stE s s.size m = 16 * Vd s (2 * m) + Vd s (2 * m + 1) := by unfold stE; rw [if_pos (by omega)]
  rw [hE]
  simp only [hexOf]
  rw [show (16 * Vd s (2 * m) + Vd s (2 * m + 1)) / 16 = Vd s (2 * m) from by omega, show (16 * Vd s (2 * m) + Vd s (2 * m + 1)) % 16 = Vd s (2 * m + 1) from by omega]
  have l0 := low_dv _ _ b0.1 b0.2 h0.2.2
  have l1 := low_dv _ _ b1.1 b1.2 h1.2.2
  unfold dD at l0 l1
  rw [l0, l1]
theorem stL_byte (s : ByteArray) (hg : Good s s.size) : ∀ x ∈ stL s s.size, 0 ≤ x ∧ x < 256 := by
  intro x hx
  obtain ⟨m, hm, rfl⟩ := List.mem_map.1 hx
  have hm2 := List.mem_range.1 hm
  have h0 := Vd_range hg (show 2 * m < s.size by omega)
  have h1 := Vd_range hg (show 2 * m + 1 < s.size by omega)
  unfold stE
  rw [if_pos (by omega)]
  omega
theorem sameV_yes (p : Int) (_hp : 0 ≤ p) : sameV (some (p * 1024 + 161)) 161 p = true := by
  unfold sameV
  rw [if_neg (by omega)]
  simp only [Bool.and_eq_true, decide_eq_true_eq]
  omega
theorem put_bad (H : List Int) (at_ : Nat) (bad : Int) (k : Nat) (hat : at_ ≤ H.length) (hb0 : 0 ≤ bad) (hb1 : bad < 256) (hb : dv bad = none) (hH : ∀ x ∈ H, 0 ≤ x ∧ x < 256) (hd : ∀ j, j < H.length → dv (rd H (j : Int)) ≠ none) (hl : H.length ≤ 2100000) (hk : H.length + 10 < k) :
    octet_Unhex.f k (strOfNums (H.take at_ ++ [bad] ++ H.drop at_)) = some ([], some ((at_ : Int) * 1024 + 161)) := by
  have hlen : (H.take at_ ++ [bad] ++ H.drop at_).length = H.length + 1 := by simp; omega
  have hw : ∀ x ∈ H.take at_ ++ [bad] ++ H.drop at_, 0 ≤ x ∧ x < 256 := by
    intro x hx
    rcases List.mem_append.1 hx with hx | hx
    · rcases List.mem_append.1 hx with hx | hx
      · exact hH x (List.mem_of_mem_take hx)
      · rw [List.mem_singleton.1 hx]; exact ⟨hb0, hb1⟩
    · exact hH x (List.mem_of_mem_drop hx)
  have hl2 : (H.take at_).length = at_ := by rw [List.length_take]; omega
  have hr : ∀ j, j < at_ → rd (H.take at_ ++ [bad] ++ H.drop at_) (j : Int) = rd H (j : Int) := by
    intro j hj
    simp only [rd, Int.toNat_natCast, List.getD_eq_getElem?_getD]
    rw [List.append_assoc, List.getElem?_append_left (by omega), List.getElem?_take_of_lt hj]
  have hm : rd (H.take at_ ++ [bad] ++ H.drop at_) (at_ : Int) = bad := by
    simp only [rd, Int.toNat_natCast, List.getD_eq_getElem?_getD]
    rw [List.append_assoc, List.getElem?_append_right (by omega), hl2, Nat.sub_self]
    rfl
  refine unhex_bad _ at_ k (by rw [strOfNums_size, hlen]; omega) (by rw [strOfNums_size, hlen]; omega) ?_ ?_ (by rw [strOfNums_size, hlen]; omega)
  · refine good_str _ at_ (by omega) hw (fun j hj => ?_)
    rw [hr j hj]
    exact hd j (by omega)
  · rw [str_bt _ at_ (by omega) hw, hm]
    exact hb
theorem u8_range {x : Int} (h : (Lit.int .u8 x).wf = true) : 0 ≤ x ∧ x < 256 := by
  have : 0 ≤ x ∧ x ≤ 255 := by simpa [Lit.wf, IntKind.min, IntKind.max, IntKind.signed, IntKind.bits] using h
  omega
theorem digits_j3 (b : List Int) (at_ : Nat) (bad : Int) (f : Bool) (k : Nat) (hw : ∀ x ∈ b, 0 ≤ x ∧ x < 256) (hl : b.length ≤ 1048576) (hat : at_ ≤ 2 * b.length) (hb0 : 0 ≤ bad) (hb1 : bad < 256) (hf : f = (dv bad).isSome) (hk : 2 * b.length + 20 < k) :
    plumblaw16_OctetDigits.j3 k (at_ : Int) bad (strOfNums (hexs b)) f = some true := by
  obtain ⟨k, rfl⟩ : ∃ m, k = m + 1 := ⟨k - 1, by omega⟩
  have hs : (strOfNums (hexs b)).size = 2 * b.length := by rw [strOfNums_size, hexs_length]
  have hgood : ∀ j, j < (hexs b).length → dv (rd (hexs b) (j : Int)) ≠ none := fun j hj => by
    rw [hexs_length] at hj
    obtain ⟨h0, h1⟩ := hd_range b j hw hj
    rw [hexs_rd b j hj, dD_dv _ h0 h1]
    simp
  have hx1 : (strOfNums (hexs b)).extract 0 ((at_ : Int)).toNat = strOfNums ((hexs b).take at_) := by
    rw [Int.toNat_natCast, str_extract _ 0 at_ (by rw [hexs_length]; exact hat)]; rfl
  have hx2 : (strOfNums (hexs b)).extract ((at_ : Int)).toNat (strOfNums (hexs b)).size = strOfNums ((hexs b).drop at_) := by
    rw [Int.toNat_natCast, strOfNums_size, str_extract _ at_ _ (Nat.le_refl _), List.take_length]
  have key : ∀ c : Int, 0 ≤ c → c < 256 → dv c = none → octet_Unhex.f k (strOfNums ((hexs b).take at_) ++ strOfNums [c] ++ strOfNums ((hexs b).drop at_)) = some ([], some ((at_ : Int) * 1024 + 161)) := by
    intro c c0 c1 hc
    rw [str_append, str_append]
    exact put_bad (hexs b) at_ c k (by rw [hexs_length]; exact hat) c0 c1 hc (hexs_byte b) hgood (by rw [hexs_length]; omega) (by rw [hexs_length]; omega)
  have hsz : ∀ c : Int, (strOfNums ((hexs b).take at_)).size + (strOfNums [c]).size ≤ 9223372036854775807 := fun c => by
    rw [strOfNums_size, strOfNums_size, List.length_take, hexs_length]; simp; omega
  have hsz2 : ∀ c : Int, (strOfNums ((hexs b).take at_) ++ strOfNums [c]).size + (strOfNums ((hexs b).drop at_)).size ≤ 9223372036854775807 := fun c => by
    rw [str_append, strOfNums_size, strOfNums_size, List.length_append, List.length_take, List.length_drop, hexs_length]; simp; omega
  rw [plumblaw16_OctetDigits.j3, hx1, hx2]
  cases hd : dv bad with
  | some v =>
    rw [hf, hd, if_pos (show (some v : Option Int).isSome = true from rfl), if_pos (by omega), if_pos (by omega), Option.bind_some, if_pos (hsz _), if_pos (hsz2 _), key 103 (by omega) (by omega) (by decide), Option.bind_some]
    show (plumblaw16_sameErr.f (some ((at_ : Int) * 1024 + 161)) 161 (at_ : Int)).bind _ = _
    unfold plumblaw16_sameErr.f
    rw [sameV_yes _ (by omega), Option.bind_some, if_pos rfl]
    rfl
  | none =>
    rw [hf, hd, if_neg (show ¬ (none : Option Int).isSome = true by decide), if_pos (by omega), if_pos (by omega), Option.bind_some, if_pos (hsz _), if_pos (hsz2 _), key bad hb0 hb1 hd, Option.bind_some]
    show (plumblaw16_sameErr.f (some ((at_ : Int) * 1024 + 161)) 161 (at_ : Int)).bind _ = _
    unfold plumblaw16_sameErr.f
    rw [sameV_yes _ (by omega), Option.bind_some, if_pos rfl]
    rfl
theorem digits_j2 (b : List Int) (at_ : Nat) (bad : Int) (k : Nat) (hw : ∀ x ∈ b, 0 ≤ x ∧ x < 256) (hl : b.length ≤ 1048576) (hat : at_ ≤ 2 * b.length) (hb0 : 0 ≤ bad) (hb1 : bad < 256) (hk : 2 * b.length + 21 < k) :
    plumblaw16_OctetDigits.j2 k (at_ : Int) bad (strOfNums (hexs b)) = some true := by
  obtain ⟨k, rfl⟩ : ∃ m, k = m + 1 := ⟨k - 1, by omega⟩
  have J := fun f hf => digits_j3 b at_ bad f k hw hl hat hb0 hb1 hf (by omega)
  rw [plumblaw16_OctetDigits.j2]
  repeat' split
  all_goals (refine J _ ?_; unfold dv; repeat' split)
  all_goals first | rfl | omega | (symm; simp; omega) | (simp; omega)
theorem digits_j1 (b : List Int) (at_ bad : Int) (k : Nat) (hw : ∀ x ∈ b, 0 ≤ x ∧ x < 256) (hl : b.length ≤ 1048576) (_ha0 : -9223372036854775808 ≤ at_) (_ha1 : at_ ≤ 9223372036854775807) (hb0 : 0 ≤ bad) (hb1 : bad < 256) (hk : 2 * b.length + 30 < k) :
    plumblaw16_OctetDigits.j1 k at_ bad (strOfNums (hexs b)) false = some true := by
  obtain ⟨k, rfl⟩ : ∃ m, k = m + 1 := ⟨k - 1, by omega⟩
  have hs : (strOfNums (hexs b)).size = 2 * b.length := by rw [strOfNums_size, hexs_length]
  have hw1 : ∀ x ∈ hexs b ++ [48], 0 ≤ x ∧ x < 256 := by
    intro x hx
    rcases List.mem_append.1 hx with hx | hx
    · exact hexs_byte b x hx
    · rw [List.mem_singleton.1 hx]; omega
  have hlen : (hexs b ++ [48]).length = 2 * b.length + 1 := by rw [List.length_append, hexs_length]; rfl
  have hu : octet_Unhex.f k (strOfNums (hexs b ++ [48])) = some ([], some (((strOfNums (hexs b ++ [48])).size : Int) * 1024 + 161)) := by
    refine unhex_odd _ k (by rw [strOfNums_size, hlen]; omega) ?_ (by rw [strOfNums_size, hlen]; omega) (by rw [strOfNums_size, hlen]; omega)
    rw [strOfNums_size, hlen]
    refine good_str _ _ (by omega) hw1 (fun j hj => ?_)
    rcases Nat.lt_or_ge j (2 * b.length) with c | c
    · have : rd (hexs b ++ [48]) (j : Int) = rd (hexs b) (j : Int) := by
        simp only [rd, Int.toNat_natCast, List.getD_eq_getElem?_getD]
        rw [List.getElem?_append_left (by rw [hexs_length]; exact c)]
      obtain ⟨h0, h1⟩ := hd_range b j hw c
      rw [this, hexs_rd b j c, dD_dv _ h0 h1]
      simp
    · have : rd (hexs b ++ [48]) (j : Int) = 48 := by
        simp only [rd, Int.toNat_natCast, List.getD_eq_getElem?_getD]
        rw [List.getElem?_append_right (by rw [hexs_length]; exact c), hexs_length, show j - 2 * b.length = 0 from by omega]
        rfl
      rw [this]
      decide
  have e1 : wrap64 (((strOfNums (hexs b)).size : Int) + 1) = ((2 * b.length + 1 : Nat) : Int) := by rw [hs]; unfold wrap64; omega
  rw [plumblaw16_OctetDigits.j1, if_neg (by decide), if_pos (by omega), e1, str_zero, str_append, hu, Option.bind_some, strOfNums_size (hexs b ++ [48]), hlen]
  show (plumblaw16_sameErr.f (some (((2 * b.length + 1 : Nat) : Int) * 1024 + 161)) 161 ((2 * b.length + 1 : Nat) : Int)).bind _ = _
  unfold plumblaw16_sameErr.f
  rw [sameV_yes _ (by omega), Option.bind_some, if_pos rfl, if_neg (by omega)]
  have ht : Int.tmod at_ ((2 * b.length + 1 : Nat) : Int) < ((2 * b.length + 1 : Nat) : Int) ∧ -((2 * b.length + 1 : Nat) : Int) < Int.tmod at_ ((2 * b.length + 1 : Nat) : Int) := by
    refine ⟨Int.tmod_lt_of_pos _ (by omega), ?_⟩
    rcases Int.lt_or_le at_ 0 with c | c
    · have h1 := Int.tmod_lt_of_pos (-at_) (b := ((2 * b.length + 1 : Nat) : Int)) (by omega)
      rw [Int.neg_tmod] at h1
      omega
    · rw [Int.tmod_eq_emod_of_nonneg c]
      have h2 := Int.emod_nonneg at_ (show ((2 * b.length + 1 : Nat) : Int) ≠ 0 by omega)
      omega
  obtain ⟨z, hz⟩ : ∃ z, Int.tmod at_ ((2 * b.length + 1 : Nat) : Int) = z := ⟨_, rfl⟩
  rw [hz] at ht ⊢
  by_cases c : z < 0
  · rw [if_pos c, hs, show wrap64 (wrap64 (z + ((2 * b.length : Nat) : Int)) + 1) = (((z + 2 * b.length + 1).toNat : Nat) : Int) from by unfold wrap64; omega]
    exact digits_j2 b _ bad k hw hl (by omega) hb0 hb1 (by omega)
  · rw [if_neg c, show z = ((z.toNat : Nat) : Int) from by omega]
    exact digits_j2 b _ bad k hw hl (by omega) hb0 hb1 (by omega)
theorem OctetDigits (b : List Int) (s : ByteArray) (at_ bad : Int) (hl : b.length ≤ 1048576) (hw0 : ∀ x ∈ b, (Lit.int .u8 x).wf = true) (hs : s.size ≤ 1048576) (hat : (Lit.int .i64 at_).wf = true) (hbad : (Lit.int .u8 bad).wf = true) :
    ∃ k, plumblaw16_OctetDigits.f k b s at_ bad = some true := by
  have hw : ∀ x ∈ b, 0 ≤ x ∧ x < 256 := fun x hx => u8_range (hw0 x hx)
  obtain ⟨hb0, hb1⟩ := u8_range hbad
  have hab := bounds_i64 hat
  obtain ⟨k, hk⟩ : ∃ k : Nat, 2 * b.length + s.size + 100 < k := ⟨2 * b.length + s.size + 101, by omega⟩
  refine ⟨k + 1, ?_⟩
  have hsz : (strOfNums (hexs b)).size = 2 * b.length := by rw [strOfNums_size, hexs_length]
  unfold plumblaw16_OctetDigits.f
  rw [hex_spec b (k + 1) hw hl (by omega), Option.bind_some, unhex_hexs b (k + 1) hw hl (by omega), Option.bind_some, hsz, if_pos (by unfold wrap64; omega)]
  show (plumblaw16_same.f (k + 1) b b).bind _ = _
  rw [same_spec b b (k + 1) rfl (by omega) (by omega), Option.bind_some, plumblaw16_OctetDigits.j0, if_neg (by decide)]
  have J := digits_j1 b at_ bad k hw hl (by omega) (by omega) hb0 hb1 (by omega)
  rcases first_bad s s.size with hg | ⟨p, hp, hg, hb⟩
  · rcases Nat.mod_two_eq_zero_or_one s.size with he | he
    · rw [unhex_good s k (by omega) hg he (by omega), Option.bind_some]
      show (octet_Hex.f k (stL s s.size)).bind _ = _
      rw [hex_spec (stL s s.size) k (stL_byte s hg) (by rw [stL_length]; omega) (by rw [stL_length]; omega), Option.bind_some, lower_spec s k hs (by omega), Option.bind_some, hexs_stL s hg he, bne_self_eq_false]
      exact J
    · rw [unhex_odd s k (by omega) hg he (by omega), Option.bind_some]
      exact J
  · rw [unhex_bad s p k (by omega) hp hg hb (by omega), Option.bind_some]
    exact J

end Go.Proofs.YtenomaibgpbonaaDoor.Pure
