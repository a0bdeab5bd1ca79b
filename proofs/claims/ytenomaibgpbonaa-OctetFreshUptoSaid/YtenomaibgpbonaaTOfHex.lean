/- Hex digits there and back, in plain Lean; the callees of OctetFresh by contract. No conditions but those told. -/
import Derived.Test.YtenomaibgpbonaaPOctetFreshx1
import Derived.Test.YtenomaibgpbonaaPOctetFreshx2
import Derived.Test.YtenomaibgpbonaaMath
namespace Go.Proofs.Ytenomaibgpbonaa.OFresh
open Go.RowKit Go.Proofs.Ytenomaibgpbonaa.POctetFresh Go.Proofs.YtenomaibgpbonaaW.PrintWords Go.Proofs.YtenomaibgpbonaaW.PrintLast Go.Proofs.YtenomaibgpbonaaW.PrintMore Go.Proofs.Ytenomaibgpbonaa.Math
set_option linter.unusedVariables false
set_option linter.unusedSimpArgs false
/-- A hex digit's value. -/
def dv (c : Int) : Option Int := if 48 ≤ c ∧ c ≤ 57 then some (c - 48) else if 97 ≤ c ∧ c ≤ 102 then some (c - 87) else if 65 ≤ c ∧ c ≤ 70 then some (c - 55) else none
def dvB (c : Int) : Int × Bool := match dv c with
  | some v => (v, true)
  | none => (0, false)
def dvI (c : Int) : Int := match dv c with
  | some v => v
  | none => -1
theorem lift_k {α : Type} {g : Nat → Option α} (h : ∀ k, LeO (g k) (g (k + 1))) {r : α} {k : Nat} (e : g k = some r) : ∀ m, k ≤ m → g m = some r := by
  intro m hm
  induction m with
  | zero => rw [Nat.le_zero.1 hm] at e; exact e
  | succ m ih =>
    rcases Nat.lt_or_ge k (m + 1) with h1 | h1
    · exact h m r (ih (by omega))
    · rw [show k = m + 1 from by omega] at e; exact e
theorem digit_all : ∀ c : Fin 256, octet_digit.f 4 ((c.val : Nat) : Int) = some (dvB ((c.val : Nat) : Int)) := by decide +kernel
theorem digit_spec (c : Int) (k : Nat) (h0 : 0 ≤ c) (h1 : c < 256) (hk : 4 ≤ k) : octet_digit.f k c = some (dvB c) := by
  obtain ⟨n, rfl⟩ := Int.eq_ofNat_of_zero_le h0
  exact lift_k (fun k => octet_digit.mono (n : Int) k) (digit_all ⟨n, by omega⟩) k hk
theorem and15_all : ∀ c : Fin 256, Go.bits .and .u8 ((c.val : Nat) : Int) 15 = ((c.val : Nat) : Int) % 16 := by decide +kernel
theorem and15 (c : Int) (h0 : 0 ≤ c) (h1 : c < 256) : Go.bits .and .u8 c 15 = c % 16 := by
  obtain ⟨n, rfl⟩ := Int.eq_ofNat_of_zero_le h0
  exact and15_all ⟨n, by omega⟩
theorem or16_all : ∀ c d : Fin 16, Go.bits .or .u8 ((c.val * 16 : Nat) : Int) ((d.val : Nat) : Int) = ((c.val * 16 + d.val : Nat) : Int) := by decide +kernel
theorem dv_range {c v : Int} (h : dv c = some v) : 0 ≤ v ∧ v < 16 := by
  unfold dv at h
  repeat' split at h
  all_goals first | (simp only [Option.some.injEq] at h; omega) | cases h
theorem bt_range (a : ByteArray) (i : Int) : 0 ≤ bt a i ∧ bt a i < 256 := by
  unfold bt
  split
  · exact ⟨by omega, by have := (a[i.toNat]).toNat_lt; omega⟩
  · omega
theorem drop_rd (l : List Int) (i : Nat) (h : i < l.length) : l.drop i = rd l (i : Int) :: l.drop (i + 1) := by
  rw [List.drop_eq_getElem_cons h]
  congr 1
  simp [rd, List.getD_eq_getElem?_getD, List.getElem?_eq_getElem h]
theorem rd_mem (l : List Int) (i : Nat) (h : i < l.length) : rd l (i : Int) ∈ l := by
  simp [rd, List.getD_eq_getElem?_getD, List.getElem?_eq_getElem h]
def hexOf (b : Int) : List Int := [bt (⟨#[48, 49, 50, 51, 52, 53, 54, 55, 56, 57, 97, 98, 99, 100, 101, 102]⟩ : ByteArray) (b / 16), bt (⟨#[48, 49, 50, 51, 52, 53, 54, 55, 56, 57, 97, 98, 99, 100, 101, 102]⟩ : ByteArray) (b % 16)]
def hexs (l : List Int) : List Int := l.flatMap hexOf
theorem hexs_length (l : List Int) : (hexs l).length = 2 * l.length := by
  induction l with
  | nil => rfl
  | cons x l ih => simp only [hexs, List.flatMap_cons, List.length_append, List.length_cons] at ih ⊢; rw [ih]; simp [hexOf]; omega
theorem hex_l0 (l : List Int) (hw : ∀ x ∈ l, 0 ≤ x ∧ x < 256) (hl : l.length ≤ 1048576) : ∀ (d k i : Nat) (x3 : List Int), l.length = i + d → d < k → x3.length ≤ 2 * i → octet_Hex.l0 k x3 l (l.length : Int) (i : Int) = some (strOfNums (x3 ++ hexs (l.drop i))) := by
  intro d
  induction d with
  | zero =>
    intro k i x3 hi hk hx
    obtain ⟨k, rfl⟩ : ∃ m, k = m + 1 := ⟨k - 1, by omega⟩
    rw [octet_Hex.l0, if_neg (by omega), List.drop_eq_nil_of_le (by omega)]
    simp [hexs]
  | succ d ih =>
    intro k i x3 hi hk hx
    obtain ⟨k, rfl⟩ : ∃ m, k = m + 1 := ⟨k - 1, by omega⟩
    obtain ⟨h0, h1⟩ := hw _ (rd_mem l i (by omega))
    rw [octet_Hex.l0, if_pos (by omega), if_pos (by omega), if_pos (by omega), if_pos (by omega), if_pos (by omega), and15 _ h0 h1, if_pos (by omega), if_pos (by omega)]
    simp only [Option.bind_some]
    rw [if_pos (by simp only [List.length_cons, List.length_nil]; omega), show wrap64 ((i : Int) + 1) = ((i + 1 : Nat) : Int) from by unfold wrap64; omega, ih k (i + 1) _ (by omega) (by omega) (by simp only [List.length_append, List.length_cons, List.length_nil]; omega), drop_rd l i (by omega), List.append_assoc]
    rfl
theorem hex_spec (l : List Int) (k : Nat) (hw : ∀ x ∈ l, 0 ≤ x ∧ x < 256) (hl : l.length ≤ 1048576) (hk : l.length < k) : octet_Hex.f k l = some (strOfNums (hexs l)) := by
  unfold octet_Hex.f
  have e : wrap64 (2 * (l.length : Int)) = 2 * (l.length : Int) := by unfold wrap64; omega
  rw [e, if_pos (by omega), if_pos (by omega)]
  have := hex_l0 l hw hl l.length k 0 [] (by omega) hk (by simp)
  simpa using this
/-! ### Unhex -/
def Vd (a : ByteArray) (j : Nat) : Int := dvI (bt a (j : Int))
def Good (a : ByteArray) (i : Nat) : Prop := ∀ j, j < i → dv (bt a (j : Int)) ≠ none
theorem Vd_range {a : ByteArray} {i j : Nat} (h : Good a i) (hj : j < i) : 0 ≤ Vd a j ∧ Vd a j < 16 ∧ dv (bt a (j : Int)) = some (Vd a j) := by
  have h1 := h j hj
  unfold Vd dvI
  cases hd : dv (bt a (j : Int)) with
  | none => exact absurd hd h1
  | some v => exact ⟨(dv_range hd).1, (dv_range hd).2, rfl⟩
def stE (a : ByteArray) (i m : Nat) : Int := if 2 * m + 1 < i then 16 * Vd a (2 * m) + Vd a (2 * m + 1) else if 2 * m < i then Vd a (2 * m) else 0
def stL (a : ByteArray) (i : Nat) : List Int := (List.range (a.size / 2)).map (stE a i)
theorem stL_length (a : ByteArray) (i : Nat) : (stL a i).length = a.size / 2 := by simp [stL]
theorem stL_rd (a : ByteArray) (i m : Nat) (hm : m < a.size / 2) : rd (stL a i) (m : Int) = stE a i m := by
  simp [rd, stL, List.getD_eq_getElem?_getD, List.getElem?_map, List.getElem?_range hm]
theorem stL_set (a : ByteArray) (i : Nat) (h : Good a (i + 1)) (hi : i / 2 < a.size / 2) : (stL a i).set (i / 2) (Go.bits .or .u8 ((rd (stL a i) ((i / 2 : Nat) : Int) * 16) % 256) (Vd a i)) = stL a (i + 1) := by
  have hv := Vd_range h (Nat.lt_succ_self i)
  have hor : ∀ x : Int, 0 ≤ x → x < 16 → Go.bits .or .u8 ((x * 16) % 256) (Vd a i) = x * 16 + Vd a i := by
    intro x hx0 hx1
    obtain ⟨n, rfl⟩ := Int.eq_ofNat_of_zero_le hx0
    obtain ⟨v, hv'⟩ := Int.eq_ofNat_of_zero_le hv.1
    rw [hv'] at hv ⊢
    have this : Go.bits .or .u8 ((n * 16 : Nat) : Int) (v : Int) = ((n * 16 + v : Nat) : Int) := or16_all ⟨n, by omega⟩ ⟨v, by omega⟩
    rw [show ((n : Int) * 16) % 256 = ((n * 16 : Nat) : Int) from by omega]
    rw [this]
    omega
  rw [stL_rd a i _ hi]
  apply List.ext_getElem
  · simp [stL_length]
  · intro m h1 h2
    rw [List.getElem_set]
    have hm : m < a.size / 2 := by rw [stL_length] at h2; exact h2
    have e1 : (stL a i)[m]'(by rw [stL_length]; exact hm) = stE a i m := by simp [stL]
    have e2 : (stL a (i + 1))[m]'h2 = stE a (i + 1) m := by simp [stL]
    rw [e2]
    by_cases c : i / 2 = m
    · rw [if_pos c]
      subst c
      rcases Nat.mod_two_eq_zero_or_one i with hp | hp
      · have e0 : 2 * (i / 2) = i := by omega
        have s0 : stE a i (i / 2) = 0 := by unfold stE; rw [if_neg (by omega), if_neg (by omega)]
        rw [s0, hor 0 (by omega) (by omega)]
        unfold stE
        rw [if_neg (by omega), if_pos (by omega), e0]
        omega
      · have e0 : 2 * (i / 2) + 1 = i := by omega
        have hv2 := Vd_range h (show 2 * (i / 2) < i + 1 by omega)
        have s0 : stE a i (i / 2) = Vd a (2 * (i / 2)) := by unfold stE; rw [if_neg (by omega), if_pos (by omega)]
        rw [s0, hor _ hv2.1 hv2.2.1]
        unfold stE
        rw [if_pos (by omega), e0]
        omega
    · rw [if_neg c, e1]
      unfold stE
      repeat' split
      all_goals first | rfl | omega
theorem stL_keep (a : ByteArray) (i : Nat) (hi : ¬ i / 2 < a.size / 2) : stL a i = stL a (i + 1) := by
  apply List.map_congr_left
  intro m hm
  have hm2 := List.mem_range.1 hm
  unfold stE
  repeat' split
  all_goals first | rfl | omega
theorem unhex_run (a : ByteArray) (p : Nat) (hp : p ≤ a.size) (hg : Good a p) (hs : a.size ≤ 4000000) : ∀ (d k i : Nat), i + d = p → 4 ≤ k → octet_Unhex.l0 (k + d) a (stL a i) (a.size : Int) (i : Int) = octet_Unhex.l0 k a (stL a p) (a.size : Int) (p : Int) := by
  intro d
  induction d with
  | zero => intro k i hi _; rw [show i = p from by omega]; rfl
  | succ d ih =>
    intro k i hi hk
    have hv := Vd_range hg (show i < p by omega)
    have hbt := bt_range a (i : Int)
    have hdB : dvB (bt a (i : Int)) = (Vd a i, true) := by unfold dvB; rw [hv.2.2]
    rw [show k + (d + 1) = (k + d) + 1 from by omega, octet_Unhex.l0, if_pos (by omega), if_pos (by omega), if_pos (by omega), digit_spec _ (k + d) hbt.1 hbt.2 (by omega), Option.bind_some, hdB, if_pos rfl,
      show wrap64 (Int.tdiv (i : Int) 2) = ((i / 2 : Nat) : Int) from by rw [Int.tdiv_eq_ediv_of_nonneg (by omega)]; unfold wrap64; omega, stL_length, show wrap64 ((i : Int) + 1) = ((i + 1 : Nat) : Int) from by unfold wrap64; omega]
    by_cases c : i / 2 < a.size / 2
    · rw [if_pos (by omega), if_pos (by omega), Int.toNat_natCast]
      show octet_Unhex.l0 (k + d) a ((stL a i).set (i / 2) (Go.bits .or .u8 ((rd (stL a i) ((i / 2 : Nat) : Int) * 16) % 256) (Vd a i))) (a.size : Int) ((i + 1 : Nat) : Int) = _
      rw [stL_set a i (fun j hj => hg j (by omega)) c]
      exact ih k (i + 1) (by omega) hk
    · rw [if_neg (by omega), stL_keep a i c]
      exact ih k (i + 1) (by omega) hk
theorem unhex_start (a : ByteArray) (k : Nat) (hs : a.size ≤ 4000000) : octet_Unhex.f k a = octet_Unhex.l0 k a (stL a 0) (a.size : Int) 0 := by
  unfold octet_Unhex.f
  have e : wrap64 ((a.size : Int) / 2) = ((a.size / 2 : Nat) : Int) := by unfold wrap64; omega
  rw [e, if_pos (by omega), if_pos (by omega), Int.toNat_natCast]
  congr 1
  apply List.ext_getElem
  · simp [stL_length]
  · intro m h1 h2
    simp [stL, stE]
theorem unhex_good (a : ByteArray) (k : Nat) (hs : a.size ≤ 4000000) (hg : Good a a.size) (he : a.size % 2 = 0) (hk : a.size + 4 ≤ k) : octet_Unhex.f k a = some (stL a a.size, none) := by
  obtain ⟨m, rfl⟩ : ∃ m, k = (m + 1) + a.size := ⟨k - a.size - 1, by omega⟩
  have h := unhex_run a a.size (Nat.le_refl _) hg hs a.size (m + 1) 0 (by omega) (by omega)
  rw [unhex_start a _ hs]
  refine h.trans ?_
  rw [octet_Unhex.l0, if_neg (by omega), if_pos (by omega)]
theorem first_bad (a : ByteArray) (n : Nat) : Good a n ∨ ∃ p, p < n ∧ Good a p ∧ dv (bt a (p : Int)) = none := by
  induction n with
  | zero => exact .inl (fun j hj => by omega)
  | succ n ih =>
    rcases ih with h | ⟨p, h1, h2, h3⟩
    · cases hd : dv (bt a (n : Int)) with
      | none => exact .inr ⟨n, by omega, h, hd⟩
      | some v =>
        refine .inl (fun j hj => ?_)
        rcases Nat.lt_or_ge j n with c | c
        · exact h j c
        · rw [show j = n from by omega, hd]; simp
    · exact .inr ⟨p, by omega, h2, h3⟩
/-! ### texts of numbers -/
theorem str_bt (l : List Int) (j : Nat) (h : j < l.length) (hw : ∀ x ∈ l, 0 ≤ x ∧ x < 256) : bt (strOfNums l) (j : Int) = rd l (j : Int) := by
  have hr := hw _ (rd_mem l j h)
  unfold bt
  rw [dif_pos (by rw [Int.toNat_natCast, strOfNums_size]; exact h)]
  simp only [Int.toNat_natCast, rd, List.getD_eq_getElem?_getD, List.getElem?_eq_getElem h, Option.getD_some] at hr ⊢
  have : ((strOfNums l)[j]'(by rw [strOfNums_size]; exact h)) = UInt8.ofNat (l[j]).toNat := by simp [strOfNums, ByteArray.getElem_eq_getElem_data]
  rw [this]
  simp
  omega
theorem str_append (l m : List Int) : strOfNums l ++ strOfNums m = strOfNums (l ++ m) := by
  apply ByteArray.ext
  rw [ByteArray.data_append]
  simp [strOfNums]
theorem str_extract (l : List Int) (i j : Nat) (_hj : j ≤ l.length) : (strOfNums l).extract i j = strOfNums ((l.take j).drop i) := by
  apply ByteArray.ext
  rw [ByteArray.data_extract]
  apply Array.ext'
  simp [strOfNums, List.extract_eq_take_drop, List.map_take, List.map_drop, List.drop_take]
theorem str_zero : (⟨#[48]⟩ : ByteArray) = strOfNums [48] := by rfl
def dD (v : Int) : Int := bt (⟨#[48, 49, 50, 51, 52, 53, 54, 55, 56, 57, 97, 98, 99, 100, 101, 102]⟩ : ByteArray) v
theorem dD_all : ∀ v : Fin 16, dv (dD ((v.val : Nat) : Int)) = some ((v.val : Nat) : Int) := by decide +kernel
theorem dD_dv (v : Int) (h0 : 0 ≤ v) (h1 : v < 16) : dv (dD v) = some v := by
  obtain ⟨n, rfl⟩ := Int.eq_ofNat_of_zero_le h0
  exact dD_all ⟨n, by omega⟩
def lowC (c : Int) : Int := if 65 ≤ c ∧ c ≤ 70 then c + 32 else c
theorem low_all : ∀ c : Fin 256, (match dv ((c.val : Nat) : Int) with | some v => decide (dD v = lowC ((c.val : Nat) : Int)) | none => true) = true := by decide +kernel
theorem low_dv (c v : Int) (h0 : 0 ≤ c) (h1 : c < 256) (h : dv c = some v) : dD v = lowC c := by
  obtain ⟨n, rfl⟩ := Int.eq_ofNat_of_zero_le h0
  have := low_all ⟨n, by omega⟩
  simp only [h, decide_eq_true_eq] at this
  exact this
theorem pairs (f : Nat → Int) (m : Nat) : (List.range m).flatMap (fun i => [f (2 * i), f (2 * i + 1)]) = (List.range (2 * m)).map f := by
  induction m with
  | zero => rfl
  | succ m ih =>
    rw [List.range_succ, List.flatMap_append, ih, show 2 * (m + 1) = 2 * m + 1 + 1 from by omega, List.range_succ, List.range_succ]
    simp
theorem self_map (b : List Int) : b = (List.range b.length).map (fun (i : Nat) => rd b (i : Int)) := by
  apply List.ext_getElem
  · simp
  · intro i h1 h2
    simp [rd, List.getD_eq_getElem?_getD, List.getElem?_eq_getElem h1]
/-- The digit at a place of the bytes' text. -/
def hd (b : List Int) (j : Nat) : Int := if j % 2 = 0 then rd b ((j / 2 : Nat) : Int) / 16 else rd b ((j / 2 : Nat) : Int) % 16
theorem hexs_map (b : List Int) : hexs b = (List.range (2 * b.length)).map (fun j => dD (hd b j)) := by
  rw [← pairs]
  conv => lhs; rw [self_map b]
  unfold hexs
  rw [List.flatMap_map]
  congr 1
  funext i
  simp only [hexOf, hd, dD]
  rw [if_pos (by omega), if_neg (by omega), show 2 * i / 2 = i from by omega, show (2 * i + 1) / 2 = i from by omega]
theorem hd_range (b : List Int) (j : Nat) (hw : ∀ x ∈ b, 0 ≤ x ∧ x < 256) (hj : j < 2 * b.length) : 0 ≤ hd b j ∧ hd b j < 16 := by
  have := hw _ (rd_mem b (j / 2) (by omega))
  unfold hd
  split <;> omega
theorem hexs_rd (b : List Int) (j : Nat) (hj : j < 2 * b.length) : rd (hexs b) (j : Int) = dD (hd b j) := by
  rw [hexs_map]
  simp [rd, List.getD_eq_getElem?_getD, List.getElem?_map, List.getElem?_range hj]
theorem hexs_byte (b : List Int) : ∀ x ∈ hexs b, 0 ≤ x ∧ x < 256 := by
  intro x hx
  rw [hexs_map] at hx
  obtain ⟨j, _, rfl⟩ := List.mem_map.1 hx
  exact bt_range _ _
theorem good_str (l : List Int) (i : Nat) (hi : i ≤ l.length) (hw : ∀ x ∈ l, 0 ≤ x ∧ x < 256) (h : ∀ j, j < i → dv (rd l (j : Int)) ≠ none) : Good (strOfNums l) i := by
  intro j hj
  rw [str_bt l j (by omega) hw]
  exact h j hj
theorem unhex_hexs (b : List Int) (k : Nat) (hw : ∀ x ∈ b, 0 ≤ x ∧ x < 256) (hl : b.length ≤ 1048580) (hk : 2 * b.length + 10 < k) : octet_Unhex.f k (strOfNums (hexs b)) = some (b, none) := by
  have hs : (strOfNums (hexs b)).size = 2 * b.length := by rw [strOfNums_size, hexs_length]
  have hv : ∀ j, j < 2 * b.length → bt (strOfNums (hexs b)) (j : Int) = dD (hd b j) := fun j hj => by
    rw [str_bt _ j (by rw [hexs_length]; exact hj) (hexs_byte b), hexs_rd b j hj]
  have hdv : ∀ j, j < 2 * b.length → dv (bt (strOfNums (hexs b)) (j : Int)) = some (hd b j) := fun j hj => by
    obtain ⟨h0, h1⟩ := hd_range b j hw hj
    rw [hv j hj, dD_dv _ h0 h1]
  have hg : Good (strOfNums (hexs b)) (strOfNums (hexs b)).size := fun j hj => by
    rw [hs] at hj
    rw [hdv j hj]
    simp
  rw [unhex_good (strOfNums (hexs b)) k (by omega) hg (by omega) (by omega)]
  have e : stL (strOfNums (hexs b)) (strOfNums (hexs b)).size = b := by
    apply List.ext_getElem
    · rw [stL_length, hs]; omega
    · intro m h1 h2
      have hVd : ∀ j, j < 2 * b.length → Vd (strOfNums (hexs b)) j = hd b j := fun j hj => by unfold Vd dvI; rw [hdv j hj]
      have : (stL (strOfNums (hexs b)) (strOfNums (hexs b)).size)[m]'h1 = stE (strOfNums (hexs b)) (strOfNums (hexs b)).size m := by simp [stL]
      rw [this]
      unfold stE
      rw [hs, if_pos (by omega), hVd (2 * m) (by omega), hVd (2 * m + 1) (by omega)]
      have hr : rd b (m : Int) = b[m] := by simp [rd, List.getD_eq_getElem?_getD, List.getElem?_eq_getElem h2]
      unfold hd
      rw [if_pos (by omega), if_neg (by omega), show 2 * m / 2 = m from by omega, show (2 * m + 1) / 2 = m from by omega, hr]
      omega
  rw [e]
theorem same_l0 (xs : List Int) (hl : xs.length ≤ 140737488355328) (d : Nat) : ∀ k i : Nat, xs.length = i + d → d < k → plumblaw16_same.l0 k xs xs (i : Int) = some true := by
  induction d with
  | zero =>
    intro k i h hk
    obtain ⟨k, rfl⟩ : ∃ m, k = m + 1 := ⟨k - 1, by omega⟩
    simp only [plumblaw16_same.l0]
    rw [if_neg (by omega)]
  | succ d ih =>
    intro k i h hk
    obtain ⟨k, rfl⟩ : ∃ m, k = m + 1 := ⟨k - 1, by omega⟩
    simp only [plumblaw16_same.l0]
    rw [if_pos (by omega), if_pos (by omega), if_pos (by omega), if_pos trivial, show wrap64 ((i : Int) + 1) = ((i + 1 : Nat) : Int) from by unfold wrap64; omega]
    exact ih k (i + 1) (by omega) (by omega)
theorem same_spec (xs ys : List Int) (k : Nat) (e : ys = xs) (hl : xs.length ≤ 140737488355328) (hk : xs.length < k) : plumblaw16_same.f k xs ys = some true := by
  subst e
  unfold plumblaw16_same.f
  rw [if_pos rfl]
  exact same_l0 ys hl ys.length k 0 (by omega) hk
theorem kept_spec (b : List Int) (k : Nat) (hl : b.length ≤ 140737488351232) (hk : b.length < k) : plumblaw16_kept.f k (b ++ [77, 88]) b = some true := by
  unfold plumblaw16_kept.f
  have hlen : (b ++ [77, 88]).length = b.length + 2 := by simp
  have e2 : wrap64 ((b.length : Int) + 2) = (b.length : Int) + 2 := by unfold wrap64; omega
  have e1 : wrap64 ((b.length : Int) + 1) = ((b.length + 1 : Nat) : Int) := by unfold wrap64; omega
  rw [hlen, e2, e1, if_pos (by omega), if_pos (by omega), if_pos (by omega), Int.toNat_natCast, List.take_left, same_spec b b k rfl (by omega) hk, Option.bind_some, if_pos rfl, if_pos (by omega),
    if_pos (by simp [rd, List.getD_eq_getElem?_getD]), if_pos (by omega), if_pos (by omega)]
  have : rd (b ++ [77, 88]) ((b.length + 1 : Nat) : Int) = 88 := by
    simp only [rd, Int.toNat_natCast, List.getD_eq_getElem?_getD]
    rw [List.getElem?_append_right (by omega), Nat.add_sub_cancel_left]
    rfl
  rw [this]; rfl
theorem lent_spec (b : List Int) (hl : b.length ≤ 140737488351232) : plumblaw16_lent.f b = some (b ++ [77, 88]) := by
  unfold plumblaw16_lent.f
  rw [if_pos (by simp; omega)]
  simp only [Option.bind_some, List.nil_append]
  rw [if_pos (by simp; omega)]

/-! ### the callees -/
/-- New memory alone: the row. -/
def Made (W W' : World) (u : Value) (xs : List Int) : Prop := Kd.R (Kd.int .u8) 5 W' W.heap.size (fun _ => True) u xs ∧ Below W.heap.size W W'
def P32 (l : List Int) (v : Int) (le : Bool) : List Int := octet_put_uint32.out l v le
def P64 (l : List Int) (v : Int) (le : Bool) : List Int := octet_put_uint64.out l v le
theorem P32_len (l : List Int) (v : Int) (le : Bool) : (P32 l v le).length = l.length + 4 := by unfold P32 octet_put_uint32.out; split <;> simp
theorem P64_len (l : List Int) (v : Int) (le : Bool) : (P64 l v le).length = l.length + 8 := by unfold P64 octet_put_uint64.out; split <;> simp
section
variable (A : Option Addr) (c : Nat) (l : List Int) (W : World) (hC : Kd.C (Kd.int .u8) W A l.length l) (hc : l.length ≤ c) (hl : l.length ≤ 1048600)
include hC hc hl
theorem lent_ok : Calls Try.prog 5 #[.slice A l.length c] W fun e W' => ∃ u, e = .returned u ∧ Made W W' u (l ++ [77, 88]) :=
  (plumblaw16_lent.calls A c l _ W hC hc (lent_spec l (by omega))).mono fun e W' ⟨u, he, h1, h2⟩ => ⟨u, he, h1, h2⟩
theorem put32_ok (v : Int) (le : Bool) : Calls Try.prog 6 #[.slice A l.length c, .int .u32 v, .bool le] W fun e W' => ∃ u, e = .returned u ∧ Made W W' u (P32 l v le) :=
  (octet_Put32.calls A c l v le (P32 l v le) W hC hc (by unfold octet_Put32.f octet_put_uint32.f; rw [if_pos ⟨rfl, by omega⟩]; rfl)).mono fun e W' ⟨u, he, h1, h2⟩ => ⟨u, he, h1, h2⟩
theorem put64_ok (v : Int) (le : Bool) : Calls Try.prog 7 #[.slice A l.length c, .int .u64 v, .bool le] W fun e W' => ∃ u, e = .returned u ∧ Made W W' u (P64 l v le) :=
  (octet_Put64.calls A c l v le (P64 l v le) W hC hc (by unfold octet_Put64.f octet_put_uint64.f; rw [if_pos ⟨rfl, by omega⟩]; rfl)).mono fun e W' ⟨u, he, h1, h2⟩ => ⟨u, he, h1, h2⟩
theorem same_ok (A2 : Option Addr) (c2 : Nat) (l2 : List Int) (h2 : Kd.C (Kd.int .u8) W A2 l2.length l2) (hc2 : l2.length ≤ c2) (he : l2 = l) :
    Calls Try.prog 8 #[.slice A l.length c, .slice A2 l2.length c2] W fun e W' => e = .returned (.bool true) ∧ Drawn0 W W' :=
  plumblaw16_same.calls (l.length + 1) A c l A2 c2 l2 true W hC hc h2 hc2 (same_spec l l2 _ he (by omega) (by omega))
theorem kept_ok (A2 : Option Addr) (c2 : Nat) (l2 : List Int) (h2 : Kd.C (Kd.int .u8) W A2 l2.length l2) (hc2 : l2.length ≤ c2) (he : l = l2 ++ [77, 88]) :
    Calls Try.prog 10 #[.slice A l.length c, .slice A2 l2.length c2] W fun e W' => e = .returned (.bool true) ∧ Drawn0 W W' := by
  subst he
  have hl2 : l2.length ≤ 1048600 := by simp at hl; omega
  exact plumblaw16_kept.calls (l2.length + 1) A c (l2 ++ [77, 88]) A2 c2 l2 true W hC hc h2 hc2 (kept_spec l2 _ (by omega) (by omega))
end
section
variable (A : Option Addr) (c : Nat) (l : List Int) (W : World) (hC : Kd.C (Kd.int .u8) W A l.length l) (hc : l.length ≤ c) (hl : l.length ≤ 1048576) (hw : ∀ x ∈ l, 0 ≤ x ∧ x < 256)
include hC hc hl hw
theorem hex_ok : Calls Try.prog 11 #[.slice A l.length c] W fun e W' => e = .returned (.string (strOfNums (hexs l))) ∧ Below W.heap.size W W' :=
  octet_Hex.calls (l.length + 1) A c l _ W hC hc (hex_spec l _ hw hl (by omega))
end
theorem hexs_00 (l : List Int) : strOfNums (hexs l) ++ (⟨#[48, 48]⟩ : ByteArray) = strOfNums (hexs (l ++ [0])) := by
  rw [show (⟨#[48, 48]⟩ : ByteArray) = strOfNums [48, 48] from rfl, str_append]
  congr 1
  unfold hexs
  rw [List.flatMap_append]
  rfl
theorem unhex_ok (l : List Int) (W : World) (hl : l.length ≤ 1048576) (hw : ∀ x ∈ l, 0 ≤ x ∧ x < 256) :
    Calls Try.prog 12 #[.string (strOfNums (hexs l) ++ (⟨#[48, 48]⟩ : ByteArray))] W fun e W' => ∃ u, e = .returned (.tuple #[u, .nilIface]) ∧ Made W W' u (l ++ [0]) := by
  rw [hexs_00]
  refine (octet_Unhex.calls (2 * (l ++ [0]).length + 11) _ (l ++ [0]) none W (unhex_hexs (l ++ [0]) _ ?_ ?_ (by omega))).mono fun e W' ⟨u, he, h1, h2⟩ => ⟨u, he, h1, h2⟩
  · intro x hx
    rcases List.mem_append.1 hx with hx | hx
    · exact hw x hx
    · rw [List.mem_singleton.1 hx]; omega
  · simp; omega
/-- Other bytes, other digits. -/
theorem hexs_ne (l m : List Int) (hl : ∀ x ∈ l, 0 ≤ x ∧ x < 256) (hm : ∀ x ∈ m, 0 ≤ x ∧ x < 256) (h0 : 0 < l.length) (h1 : 0 < m.length) (hne : rd l 0 / 16 ≠ rd m 0 / 16) : strOfNums (hexs l) ≠ strOfNums (hexs m) := by
  intro he
  have hl2 := hexs_length l
  have hm2 := hexs_length m
  have e1 := str_bt (hexs l) 0 (by omega) (hexs_byte l)
  have e2 := str_bt (hexs m) 0 (by omega) (hexs_byte m)
  rw [he, e2] at e1
  have g1 := hexs_rd l 0 (by omega)
  have g2 := hexs_rd m 0 (by omega)
  rw [g1, g2] at e1
  have r1 := hd_range l 0 hl (by omega)
  have r2 := hd_range m 0 hm (by omega)
  have d1 := dD_dv _ r1.1 r1.2
  have d2 := dD_dv _ r2.1 r2.2
  rw [← e1, d2] at d1
  have := Option.some.inj d1
  simp [hd] at this
  exact hne (by simpa using this.symm)
end Go.Proofs.Ytenomaibgpbonaa.OFresh
