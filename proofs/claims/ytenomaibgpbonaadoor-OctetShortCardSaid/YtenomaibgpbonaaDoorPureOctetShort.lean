/- The law plumblaw16.OctetShort, told as a function over whole numbers and lists, answers true at every list of bytes, count and item. No condition but the machine's greatest length. -/
import Derived.Test.YtenomaibgpbonaaDoorPOctetShortx2
import Derived.Test.YtenomaibgpbonaaDoorMath
namespace Go.Proofs.YtenomaibgpbonaaDoor.Pure
open Go.RowKit Go.Proofs.YtenomaibgpbonaaDoor.POctetShort Go.Proofs.YtenomaibgpbonaaDoorW.PrintWords Go.Proofs.YtenomaibgpbonaaDoorW.PrintLast Go.Proofs.YtenomaibgpbonaaDoorW.PrintMore Go.Proofs.YtenomaibgpbonaaDoor.Math

theorem drop_rd (l : List Int) (i : Nat) (h : i < l.length) : l.drop i = rd l (i : Int) :: l.drop (i + 1) := by
  rw [List.drop_eq_getElem_cons h]
  congr 1
  simp [rd, List.getD_eq_getElem?_getD, List.getElem?_eq_getElem h]
theorem rd_mem (l : List Int) (i : Nat) (h : i < l.length) : rd l (i : Int) ∈ l := by
  simp [rd, List.getD_eq_getElem?_getD, List.getElem?_eq_getElem h]

theorem tkl_some (cs : List Int) (le : Bool) : ∀ (d k : Nat) (i v : Int), i + (d : Int) = (cs.length : Int) → d < k → ∃ r, tkl k cs le i v = some r := by
  intro d
  induction d with
  | zero =>
    intro k i v hi hk
    obtain ⟨k, rfl⟩ : ∃ m, k = m + 1 := ⟨k - 1, by omega⟩
    exact ⟨v, by rw [tkl, if_neg (by omega)]⟩
  | succ d ih =>
    intro k i v hi hk
    obtain ⟨k, rfl⟩ : ∃ m, k = m + 1 := ⟨k - 1, by omega⟩
    rw [tkl, if_pos (by omega)]
    exact ih k (i + 1) _ (by omega) (by omega)
theorem take_bad_f (s : List Int) (at_ n : Int) (le : Bool) : octet_Reader_take.f s at_ true n le = some (0, at_, true) := by
  unfold octet_Reader_take.f
  rw [if_pos rfl]
theorem take_short_f (s : List Int) (at_ n : Int) (le : Bool) (h0 : 0 ≤ at_) (h1 : at_ ≤ s.length) (hl : s.length ≤ 140737488355328) (hn : 0 < n ∧ n ≤ 8) (h : (s.length : Int) - at_ < n) : octet_Reader_take.f s at_ false n le = some (0, at_, true) := by
  unfold octet_Reader_take.f
  rw [if_neg (by decide), if_pos ⟨⟨h0, h1, by omega⟩, hn⟩, if_pos h]
theorem take_f (s : List Int) (at_ n : Int) (le : Bool) (h0 : 0 ≤ at_) (hl : s.length ≤ 140737488355328) (hn : 0 < n ∧ n ≤ 8) (h : at_ + n ≤ s.length) : ∃ r, tkl 20 ((s.drop at_.toNat).take n.toNat) le 0 0 = some r ∧ octet_Reader_take.f s at_ false n le = some (r, at_ + n, false) := by
  obtain ⟨r, hr⟩ := tkl_some ((s.drop at_.toNat).take n.toNat) le n.toNat 20 0 0 (by rw [List.length_take, List.length_drop]; omega) (by omega)
  refine ⟨r, hr, ?_⟩
  unfold octet_Reader_take.f
  rw [if_neg (by decide), if_pos ⟨⟨h0, by omega, by omega⟩, hn⟩, if_neg (by omega), hr, Option.bind_some]
theorem or0_all : ∀ c : Fin 256, Go.bits .or .u64 (shl .u64 0 8) (IntKind.u64.wrap ((c.val : Nat) : Int)) = ((c.val : Nat) : Int) := by decide +kernel
theorem byte_f (s : List Int) (i : Nat) (hl : s.length ≤ 140737488355328) (h : i < s.length) (hw : ∀ x ∈ s, 0 ≤ x ∧ x < 256) : octet_Reader_Byte.f s (i : Int) false = some (rd s (i : Int), ((i + 1 : Nat) : Int), false) := by
  obtain ⟨r, hr, hf⟩ := take_f s (i : Int) 1 false (by omega) hl (by omega) (by omega)
  have hx := hw _ (rd_mem s i h)
  have e : (s.drop ((i : Int)).toNat).take ((1 : Int)).toNat = [rd s (i : Int)] := by
    rw [Int.toNat_natCast, drop_rd s i h]
    rfl
  rw [e] at hr
  have hc : rd [rd s (i : Int)] 0 = rd s (i : Int) := rfl
  rw [show (20 : Nat) = 18 + 1 + 1 from rfl, tkl, if_pos (by simp), hc, if_neg (by decide), tkl, if_neg (by simp)] at hr
  obtain ⟨n, hn⟩ := Int.eq_ofNat_of_zero_le hx.1
  rw [hn] at hr hx ⊢
  rw [or0_all ⟨n, by omega⟩] at hr
  obtain rfl := Option.some.inj hr
  unfold octet_Reader_Byte.f
  rw [hf, Option.bind_some]
  show some (((n : Nat) : Int) % 256, (i : Int) + 1, false) = _
  rw [show ((n : Nat) : Int) % 256 = (n : Int) from by omega]
  rfl
theorem sameV_yes (c p : Int) (hc0 : 0 < c) (hc : c < 1024) : sameV (some (p * 1024 + c)) c p = true := by
  unfold sameV
  rw [if_neg (by omega)]
  simp only [Bool.and_eq_true, decide_eq_true_eq]
  omega
theorem err_bad (s : List Int) (at_ : Int) : octet_Reader_Err.f s at_ true = some (some (at_ * 1024 + 160), at_, true) := by
  unfold octet_Reader_Err.f api_Wrap.f
  rw [if_pos rfl, if_pos (by omega)]
  rfl
theorem err_good (s : List Int) (at_ : Int) : octet_Reader_Err.f s at_ false = some (none, at_, false) := by
  unfold octet_Reader_Err.f
  rw [if_neg (by decide)]
theorem byte_bad (s : List Int) (at_ : Int) : octet_Reader_Byte.f s at_ true = some (0, at_, true) := by
  unfold octet_Reader_Byte.f
  rw [take_bad_f]
  rfl
theorem word32_bad (s : List Int) (at_ : Int) (le : Bool) : octet_Reader_Word32.f s at_ true le = some (0, at_, true) := by
  unfold octet_Reader_Word32.f
  rw [take_bad_f]
  rfl
theorem short_j2_enough (s : List Int) (i w v : Int) (k : Nat) (h0 : 0 ≤ i) (hl : s.length ≤ 140737488355328) (hw : 0 < w ∧ w ≤ 8) (h : i + w ≤ s.length) : plumblaw16_OctetShort.j2 (k + 1) i w (wrap64 ((s.length : Int) - i)) v s (i + w) false = some true := by
  have e : wrap64 ((s.length : Int) - i) = (s.length : Int) - i := by unfold wrap64; omega
  rw [e, plumblaw16_OctetShort.j2, if_pos (by omega), err_good, Option.bind_some]
  show (if (none : Option Int).isNone = true then (octet_Reader_At.f s (i + w) false).bind _ else _) = _
  rw [if_pos (show (none : Option Int).isNone = true from rfl)]
  unfold octet_Reader_At.f
  rw [Option.bind_some]
  show (if i + w = wrap64 (i + w) then _ else _) = _
  rw [if_pos (by unfold wrap64; omega)]
  unfold octet_Reader_Left.f
  rw [Option.bind_some]
  show some (wrap64 ((s.length : Int) - (i + w)) == wrap64 ((s.length : Int) - i - w)) = some true
  rw [show (s.length : Int) - (i + w) = (s.length : Int) - i - w from by omega]
  simp
theorem short_j2_few (s : List Int) (i w : Int) (k : Nat) (h0 : 0 ≤ i) (h1 : i ≤ s.length) (hl : s.length ≤ 140737488355328) (h : (s.length : Int) - i < w) : plumblaw16_OctetShort.j2 (k + 1) i w (wrap64 ((s.length : Int) - i)) 0 s i true = some true := by
  have e : wrap64 ((s.length : Int) - i) = (s.length : Int) - i := by unfold wrap64; omega
  have hsame : plumblaw16_sameErr.f (some (i * 1024 + 160)) 160 i = some true := by
    unfold plumblaw16_sameErr.f
    rw [sameV_yes 160 i (by omega) (by omega)]
  rw [e, plumblaw16_OctetShort.j2, if_neg (by omega), if_pos rfl, err_bad, Option.bind_some]
  show (plumblaw16_sameErr.f (some (i * 1024 + 160)) 160 i).bind _ = _
  rw [hsame, Option.bind_some, if_pos rfl]
  show (octet_Reader_At.f s i true).bind _ = _
  unfold octet_Reader_At.f
  rw [Option.bind_some]
  show (if i = i then _ else _) = _
  rw [if_pos rfl]
  unfold octet_Reader_Left.f
  rw [Option.bind_some]
  show (if wrap64 ((s.length : Int) - i) = (s.length : Int) - i then _ else _) = _
  rw [if_pos e]
  show (octet_Reader_Byte.f s i true).bind _ = _
  rw [byte_bad, Option.bind_some]
  show (if (0 : Int) = 0 then _ else _) = _
  rw [if_pos rfl]
  show (octet_Reader_Word32.f s i true true).bind _ = _
  rw [word32_bad, Option.bind_some]
  show (if (0 : Int) = 0 then _ else _) = _
  rw [if_pos rfl, Option.bind_some]
  show (if i = i then _ else _) = _
  rw [if_pos rfl]
  show (octet_Reader_Err.f s i true).bind _ = _
  rw [err_bad, Option.bind_some]
  show (plumblaw16_sameErr.f (some (i * 1024 + 160)) 160 i).bind _ = _
  rw [hsame, Option.bind_some]
theorem width_f (a v : Int) (le : Bool) : ∃ w, plumblaw16_Item_width.f a v le = some w ∧ (w = 1 ∨ w = 4 ∨ w = 8) := by
  unfold plumblaw16_Item_width.f plumblaw16_Item_wide.f
  split
  all_goals (rw [Option.bind_some]; repeat' split)
  all_goals exact ⟨_, rfl, by omega⟩
theorem short_end (b : List Int) (skip a v : Int) (le : Bool) (hl : b.length ≤ 140737488355328) (k i : Nat) (hi : i ≤ b.length) : plumblaw16_OctetShort.j1 (k + 1 + 1) b skip (i : Int) false a v le b (i : Int) false = some true := by
  obtain ⟨w, hw, hc⟩ := width_f a v le
  rw [plumblaw16_OctetShort.j1, if_neg (by decide), hw, Option.bind_some]
  rcases hc with rfl | rfl | rfl
  · rw [if_pos rfl]
    unfold octet_Reader_Byte.f
    by_cases c : (b.length : Int) - (i : Int) < 1
    · rw [take_short_f b (i : Int) 1 false (by omega) (by omega) hl (by omega) c, Option.bind_some, Option.bind_some]
      exact short_j2_few b (i : Int) 1 k (by omega) (by omega) hl c
    · obtain ⟨r, _, hf⟩ := take_f b (i : Int) 1 false (by omega) hl (by omega) (by omega)
      rw [hf, Option.bind_some, Option.bind_some]
      exact short_j2_enough b (i : Int) 1 _ k (by omega) hl (by omega) (by omega)
  · rw [if_neg (by decide), if_pos rfl]
    unfold octet_Reader_Word32.f
    by_cases c : (b.length : Int) - (i : Int) < 4
    · rw [take_short_f b (i : Int) 4 le (by omega) (by omega) hl (by omega) c, Option.bind_some, Option.bind_some]
      exact short_j2_few b (i : Int) 4 k (by omega) (by omega) hl c
    · obtain ⟨r, _, hf⟩ := take_f b (i : Int) 4 le (by omega) hl (by omega) (by omega)
      rw [hf, Option.bind_some, Option.bind_some]
      exact short_j2_enough b (i : Int) 4 _ k (by omega) hl (by omega) (by omega)
  · rw [if_neg (by decide), if_neg (by decide), if_pos rfl]
    unfold octet_Reader_Word64.f
    by_cases c : (b.length : Int) - (i : Int) < 8
    · rw [take_short_f b (i : Int) 8 le (by omega) (by omega) hl (by omega) c, Option.bind_some, Option.bind_some]
      exact short_j2_few b (i : Int) 8 k (by omega) (by omega) hl c
    · obtain ⟨r, _, hf⟩ := take_f b (i : Int) 8 le (by omega) hl (by omega) (by omega)
      rw [hf, Option.bind_some, Option.bind_some]
      exact short_j2_enough b (i : Int) 8 _ k (by omega) hl (by omega) (by omega)
theorem short_l0 (b : List Int) (skip a v : Int) (le : Bool) (hl : b.length ≤ 140737488355328) (hw : ∀ x ∈ b, 0 ≤ x ∧ x < 256) : ∀ (d k i : Nat), i + d = b.length → 2 * d + 4 < k → plumblaw16_OctetShort.l0 k b skip (i : Int) a v le b (i : Int) false = some true := by
  intro d
  induction d with
  | zero =>
    intro k i hi hk
    obtain ⟨k, rfl⟩ : ∃ m, k = m + 1 + 1 + 1 := ⟨k - 3, by omega⟩
    rw [plumblaw16_OctetShort.l0, if_neg (by omega)]
    exact short_end b skip a v le hl k i (by omega)
  | succ d ih =>
    intro k i hi hk
    obtain ⟨k, rfl⟩ : ∃ m, k = m + 1 + 1 + 1 := ⟨k - 3, by omega⟩
    rw [plumblaw16_OctetShort.l0, if_pos (by omega)]
    by_cases c : (i : Int) < skip
    · rw [decide_eq_true c, plumblaw16_OctetShort.j1, if_pos rfl, byte_f b i hl (by omega) hw, Option.bind_some, if_pos (by omega), if_pos (by omega)]
      show (if rd b (i : Int) = rd b (i : Int) then _ else _) = _
      rw [if_pos rfl, show wrap64 ((i : Int) + 1) = ((i + 1 : Nat) : Int) from by unfold wrap64; omega]
      exact ih (k + 1) (i + 1) (by omega) (by omega)
    · rw [decide_eq_false c]
      exact short_end b skip a v le hl k i (by omega)
theorem u8_range {x : Int} (h : (Lit.int .u8 x).wf = true) : 0 ≤ x ∧ x < 256 := by
  have : 0 ≤ x ∧ x ≤ 255 := by simpa [Lit.wf, IntKind.min, IntKind.max, IntKind.signed, IntKind.bits] using h
  omega
theorem OctetShort (b : List Int) (skip a v : Int) (le : Bool) (hl : b.length ≤ 140737488351232) (hw : ∀ x ∈ b, (Lit.int .u8 x).wf = true) : ∃ k, plumblaw16_OctetShort.f k b skip a v le = some true := by
  obtain ⟨k, hk⟩ : ∃ k : Nat, 2 * b.length + 10 < k := ⟨2 * b.length + 11, by omega⟩
  refine ⟨k, ?_⟩
  unfold plumblaw16_OctetShort.f octet_NewReader.f
  rw [if_pos (by omega), Option.bind_some]
  exact short_l0 b skip a v le (by omega) (fun x hx => u8_range (hw x hx)) b.length k 0 (by omega) (by omega)

end Go.Proofs.YtenomaibgpbonaaDoor.Pure
