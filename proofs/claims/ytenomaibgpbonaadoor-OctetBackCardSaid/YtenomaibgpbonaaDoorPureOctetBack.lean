/- The law plumblaw16.OctetBack, told as a function over whole numbers and lists, answers true at every list of items. No condition but those told. -/
import Derived.Test.YtenomaibgpbonaaDoorPOctetBackx3
import Derived.Test.YtenomaibgpbonaaDoorMath
namespace Go.Proofs.YtenomaibgpbonaaDoor.Pure
open Go.RowKit Go.Proofs.YtenomaibgpbonaaDoor.POctetBack Go.Proofs.YtenomaibgpbonaaDoorW.PrintWords Go.Proofs.YtenomaibgpbonaaDoorW.PrintLast Go.Proofs.YtenomaibgpbonaaDoorW.PrintMore Go.Proofs.YtenomaibgpbonaaDoor.Math

theorem drop_rd (l : List Int) (i : Nat) (h : i < l.length) : l.drop i = rd l (i : Int) :: l.drop (i + 1) := by
  rw [List.drop_eq_getElem_cons h]
  congr 1
  simp [rd, List.getD_eq_getElem?_getD, List.getElem?_eq_getElem h]
theorem rd_mem (l : List Int) (i : Nat) (h : i < l.length) : rd l (i : Int) ∈ l := by
  simp [rd, List.getD_eq_getElem?_getD, List.getElem?_eq_getElem h]

/-! ### numbers of bytes -/
def leN : List Nat → Nat
  | [] => 0
  | c :: cs => c + 256 * leN cs
def beN : Nat → List Nat → Nat
  | v, [] => v
  | v, c :: cs => beN (v * 256 + c) cs
def castsB (l : List Nat) : List Int := l.map (fun (n : Nat) => (n : Int))
theorem castsB_length (l : List Nat) : (castsB l).length = l.length := by simp [castsB]
theorem castsB_rd (l : List Nat) (i : Nat) (h : i < l.length) : rd (castsB l) (i : Int) = ((l[i]) : Int) := by
  simp [rd, castsB, List.getD_eq_getElem?_getD, List.getElem?_eq_getElem h]
theorem wrap_small (n : Nat) (h : n < 256) : IntKind.u64.wrap ((n : Nat) : Int) = (n : Int) := by rw [IntKind.wrap_u64]; omega
theorem pow256 (i : Nat) : (2 : Nat) ^ (8 * i) = 256 ^ i := by rw [Nat.pow_mul]
theorem pow_le8 (i : Nat) (h : i ≤ 7) : (256 : Nat) ^ (i + 1) ≤ 18446744073709551616 := by
  have := Nat.pow_le_pow_right (n := 256) (by omega) (show i + 1 ≤ 8 by omega)
  simpa using this
theorem tkl_le (L : List Nat) (hL : ∀ c ∈ L, c < 256) (h8 : L.length ≤ 8) : ∀ (d k i v : Nat), i + d = L.length → d < k → v < 256 ^ i → tkl k (castsB L) true (i : Int) (v : Int) = some (((v + 256 ^ i * leN (L.drop i) : Nat)) : Int) := by
  intro d
  induction d with
  | zero =>
    intro k i v hi hk hv
    obtain ⟨k, rfl⟩ : ∃ m, k = m + 1 := ⟨k - 1, by omega⟩
    rw [tkl, castsB_length, if_neg (by omega), List.drop_eq_nil_of_le (by omega)]
    simp [leN]
  | succ d ih =>
    intro k i v hi hk hv
    obtain ⟨k, rfl⟩ : ∃ m, k = m + 1 := ⟨k - 1, by omega⟩
    have hil : i < L.length := by omega
    have hc : L[i] < 256 := hL _ (List.getElem_mem hil)
    have hp8 := pow_le8 i (by omega)
    rw [Nat.pow_succ] at hp8
    have hpp : 0 < 256 ^ i := Nat.pow_pos (by omega)
    have hm : L[i] * 256 ^ i ≤ 255 * 256 ^ i := Nat.mul_le_mul_right _ (by omega)
    rw [tkl, castsB_length, if_pos (by omega), castsB_rd L i hil, if_pos rfl, wrap_small _ hc, show (8 : Int) * (i : Int) = ((8 * i : Nat) : Int) from by omega, shlN _ (8 * i) (by omega), pow256, Nat.mod_eq_of_lt (by omega), ← pow256]
    rw [orN_add v L[i] (8 * i) (by rw [pow256]; exact hv) (by rw [pow256, Nat.mul_comm]; omega), pow256, show (i : Int) + 1 = ((i + 1 : Nat) : Int) from by omega]
    rw [ih k (i + 1) _ (by omega) (by omega) (by rw [Nat.pow_succ, Nat.mul_comm (256 ^ i) L[i]]; omega), List.drop_eq_getElem_cons hil, leN, Nat.pow_succ]
    congr 2
    rw [Nat.mul_add, ← Nat.mul_assoc, Nat.add_assoc]
theorem tkl_be (L : List Nat) (hL : ∀ c ∈ L, c < 256) (h8 : L.length ≤ 8) : ∀ (d k i v : Nat), i + d = L.length → d < k → v < 256 ^ i → tkl k (castsB L) false (i : Int) (v : Int) = some ((beN v (L.drop i) : Nat) : Int) := by
  intro d
  induction d with
  | zero =>
    intro k i v hi hk hv
    obtain ⟨k, rfl⟩ : ∃ m, k = m + 1 := ⟨k - 1, by omega⟩
    rw [tkl, castsB_length, if_neg (by omega), List.drop_eq_nil_of_le (by omega)]
    rfl
  | succ d ih =>
    intro k i v hi hk hv
    obtain ⟨k, rfl⟩ : ∃ m, k = m + 1 := ⟨k - 1, by omega⟩
    have hil : i < L.length := by omega
    have hc : L[i] < 256 := hL _ (List.getElem_mem hil)
    have hp8 := pow_le8 i (by omega)
    rw [Nat.pow_succ] at hp8
    rw [tkl, castsB_length, if_pos (by omega), castsB_rd L i hil, if_neg (by decide), wrap_small _ hc, show (8 : Int) = ((8 : Nat) : Int) from rfl, shlN v 8 (by omega), Nat.mod_eq_of_lt (by omega)]
    rw [orN_add' L[i] v 8 (by omega) (by omega), show (i : Int) + 1 = ((i + 1 : Nat) : Int) from by omega, ih k (i + 1) _ (by omega) (by omega) (by rw [Nat.pow_succ]; omega), List.drop_eq_getElem_cons hil, beN]
    congr 3
    omega
def b4 (U : Nat) : List Nat := [U % 256, U / 256 % 256, U / 65536 % 256, U / 16777216 % 256]
def b8 (V : Nat) : List Nat := [V % 256, V / 256 % 256, V / 65536 % 256, V / 16777216 % 256, V / 4294967296 % 256, V / 1099511627776 % 256, V / 281474976710656 % 256, V / 72057594037927936 % 256]
theorem b4_le (U : Nat) (h : U < 4294967296) : leN (b4 U) = U := by simp only [b4, leN]; omega
theorem b4_be (U : Nat) (h : U < 4294967296) : beN 0 (b4 U).reverse = U := by simp only [b4, List.reverse_cons, List.reverse_nil, List.nil_append, List.cons_append, beN]; omega
theorem b8_le (V : Nat) (h : V < 18446744073709551616) : leN (b8 V) = V := by simp only [b8, leN]; omega
theorem b8_be (V : Nat) (h : V < 18446744073709551616) : beN 0 (b8 V).reverse = V := by simp only [b8, List.reverse_cons, List.reverse_nil, List.nil_append, List.cons_append, beN]; omega
theorem b4_byte (U : Nat) : ∀ c ∈ b4 U, c < 256 := by intro c hc; simp only [b4, List.mem_cons, List.not_mem_nil, or_false] at hc; omega
theorem b8_byte (U : Nat) : ∀ c ∈ b8 U, c < 256 := by intro c hc; simp only [b8, List.mem_cons, List.not_mem_nil, or_false] at hc; omega
/-- The bytes of an item: of the width w, the number V, an order. -/
def encN (w : Int) (V : Nat) (le : Bool) : List Nat := if w = 0 then [V % 256] else if w = 1 then (if le then b4 (V % 4294967296) else (b4 (V % 4294967296)).reverse) else (if le then b8 V else (b8 V).reverse)
def wd (a : Int) : Int := if Int.tmod a 3 < 0 then Int.tmod a 3 + 3 else Int.tmod a 3
theorem wd_range (a : Int) : wd a = 0 ∨ wd a = 1 ∨ wd a = 2 := by
  have h : -3 < Int.tmod a 3 ∧ Int.tmod a 3 < 3 := by
    refine ⟨?_, Int.tmod_lt_of_pos _ (by omega)⟩
    rcases Int.lt_or_le a 0 with c | c
    · have h1 := Int.tmod_lt_of_pos (-a) (b := 3) (by omega)
      rw [Int.neg_tmod] at h1
      omega
    · rw [Int.tmod_eq_emod_of_nonneg c]
      omega
  unfold wd
  split <;> omega
theorem wide_f (a v : Int) (le : Bool) : plumblaw16_Item_wide.f a v le = some (wd a) := by
  have h := wd_range a
  unfold wd at h
  unfold plumblaw16_Item_wide.f wd
  split
  · rename_i c
    rw [if_pos c] at h
    rw [show wrap64 (Int.tmod a 3 + 3) = Int.tmod a 3 + 3 from by unfold wrap64; omega]
  · rfl
def wn (w : Int) : Nat := if w = 0 then 1 else if w = 1 then 4 else 8
theorem width_wf (a v : Int) (le : Bool) : plumblaw16_Item_width.f a v le = some ((wn (wd a) : Nat) : Int) := by
  unfold plumblaw16_Item_width.f wn
  rw [wide_f, Option.bind_some]
  rcases wd_range a with h | h | h <;> rw [h] <;> rfl
theorem encN_length (w : Int) (V : Nat) (le : Bool) (h : w = 0 ∨ w = 1 ∨ w = 2) : (encN w V le).length = wn w := by
  rcases h with rfl | rfl | rfl <;> cases le <;> rfl
def enc (x : S43) : List Int := castsB (encN (wd x.f0) x.f1.toNat x.f2)
theorem enc_length (x : S43) : (enc x).length = wn (wd x.f0) := by unfold enc; rw [castsB_length, encN_length _ _ _ (wd_range _)]
theorem wn_range (w : Int) : 1 ≤ wn w ∧ wn w ≤ 8 := by unfold wn; split <;> (try split) <;> omega
theorem encs_len (L : List S43) : (L.flatMap enc).length ≤ 8 * L.length := by
  induction L with
  | nil => simp
  | cons x L ih => rw [List.flatMap_cons, List.length_append, enc_length, List.length_cons]; have := wn_range (wd x.f0); omega
theorem rdT (L : List S43) (i : Nat) (h : i < L.length) : rd_T43 L (i : Int) = L[i] := by simp [rd_T43, List.getD_eq_getElem?_getD, List.getElem?_eq_getElem h]
theorem laid_l0 (L : List S43) (hV : ∀ x ∈ L, 0 ≤ x.f1 ∧ x.f1 < 18446744073709551616) (hl : L.length ≤ 5864062014700) : ∀ (d k i : Nat) (x3 : List Int), i + d = L.length → d < k → x3.length ≤ 8 * i → plumblaw16_laid.l0 k L x3 (i : Int) = some (x3 ++ (L.drop i).flatMap enc) := by
  intro d
  induction d with
  | zero =>
    intro k i x3 hi hk hx
    obtain ⟨k, rfl⟩ : ∃ m, k = m + 1 := ⟨k - 1, by omega⟩
    rw [plumblaw16_laid.l0, if_neg (by omega), List.drop_eq_nil_of_le (by omega)]
    simp
  | succ d ih =>
    intro k i x3 hi hk hx
    obtain ⟨k, rfl⟩ : ∃ m, k = m + 1 := ⟨k - 1, by omega⟩
    have hil : i < L.length := by omega
    obtain ⟨h0, h1⟩ := hV _ (List.getElem_mem hil)
    obtain ⟨V, hVn⟩ := Int.eq_ofNat_of_zero_le h0
    have hstep : ∀ y, y = x3 ++ enc L[i] → plumblaw16_laid.l0 k L y (((i + 1 : Nat)) : Int) = some (x3 ++ (L.drop i).flatMap enc) := by
      intro y hy
      rw [hy, ih k (i + 1) _ (by omega) (by omega) (by rw [List.length_append, enc_length]; have := wn_range (wd L[i].f0); omega), List.drop_eq_getElem_cons hil, List.flatMap_cons, List.append_assoc]
    rw [plumblaw16_laid.l0, if_pos (by omega), if_pos (by omega), rdT L i hil, wide_f, Option.bind_some, show wrap64 ((i : Int) + 1) = ((i + 1 : Nat) : Int) from by unfold wrap64; omega]
    rcases wd_range L[i].f0 with h | h | h
    · rw [h, if_pos rfl, if_pos (by omega)]
      refine hstep _ ?_
      unfold enc
      rw [h, hVn]
      congr 1
    · rw [h, if_neg (by decide), if_pos rfl]
      unfold octet_Put32.f octet_put_uint32.f
      rw [if_pos ⟨rfl, by omega⟩, Option.bind_some, Option.bind_some]
      refine hstep _ ?_
      unfold enc octet_put_uint32.out
      rw [h, hVn, show ((V : Nat) : Int) % 4294967296 = ((V % 4294967296 : Nat) : Int) from by omega]
      cases L[i].f2 <;> simp [encN, b4, castsB]
    · rw [h, if_neg (by decide), if_neg (by decide), if_pos rfl]
      unfold octet_Put64.f octet_put_uint64.f
      rw [if_pos ⟨rfl, by omega⟩, Option.bind_some, Option.bind_some]
      refine hstep _ ?_
      unfold enc octet_put_uint64.out
      rw [h, hVn]
      cases L[i].f2 <;> simp [encN, b8, castsB]
theorem laid_spec (L : List S43) (k : Nat) (hV : ∀ x ∈ L, 0 ≤ x.f1 ∧ x.f1 < 18446744073709551616) (hl : L.length ≤ 5864062014700) (hk : L.length < k) : plumblaw16_laid.f k L = some (L.flatMap enc) := by
  have := laid_l0 L hV hl L.length k 0 [] (by omega) hk (by simp)
  simpa [plumblaw16_laid.f] using this
/-- What is read where an item's bytes stand. -/
theorem take_item (s : List Int) (A w : Nat) (L : List Nat) (le : Bool) (r : Nat) (hs : s.length ≤ 140737488355328) (hA : A + w ≤ s.length) (hw : 1 ≤ w ∧ w ≤ 8) (hL : L.length = w) (hb : ∀ c ∈ L, c < 256) (ht : (s.drop A).take w = castsB L) (hr : (if le = true then leN L else beN 0 L) = r) : octet_Reader_take.f s (A : Int) false (w : Int) le = some ((r : Int), ((A + w : Nat) : Int), false) := by
  unfold octet_Reader_take.f
  rw [if_neg (by decide), if_pos ⟨⟨by omega, by omega, by omega⟩, by omega, by omega⟩, if_neg (by omega), Int.toNat_natCast, Int.toNat_natCast, ht]
  have e : tkl 20 (castsB L) le 0 0 = some (r : Int) := by
    rw [← hr]
    cases le
    · have := tkl_be L hb (by omega) L.length 20 0 0 (by omega) (by omega) (by simp)
      simpa using this
    · have := tkl_le L hb (by omega) L.length 20 0 0 (by omega) (by omega) (by simp)
      simpa using this
  rw [e, Option.bind_some]
  rfl
theorem enc_read (x : S43) (V : Nat) (hV : x.f1 = (V : Int)) (hV2 : V < 18446744073709551616) (s : List Int) (A : Nat) (rest : List Int) (hs : s.length ≤ 140737488355328) (hd : s.drop A = enc x ++ rest) (hA : A ≤ s.length) :
    (wd x.f0 = 0 → octet_Reader_Byte.f s (A : Int) false = some (((V % 256 : Nat) : Int), ((A + wn (wd x.f0) : Nat) : Int), false)) ∧
    (wd x.f0 = 1 → octet_Reader_Word32.f s (A : Int) false x.f2 = some (((V % 4294967296 : Nat) : Int), ((A + wn (wd x.f0) : Nat) : Int), false)) ∧
    (wd x.f0 = 2 → octet_Reader_Word64.f s (A : Int) false x.f2 = some ((V : Int), ((A + wn (wd x.f0) : Nat) : Int), false)) ∧ A + wn (wd x.f0) ≤ s.length ∧ s.drop (A + wn (wd x.f0)) = rest := by
  have hl := congrArg List.length hd
  rw [List.length_drop, List.length_append, enc_length] at hl
  have hwn := wn_range (wd x.f0)
  have hle : A + wn (wd x.f0) ≤ s.length := by omega
  have htk : (s.drop A).take (wn (wd x.f0)) = enc x := by rw [hd, ← enc_length x, List.take_left]
  have hdr : s.drop (A + wn (wd x.f0)) = rest := by rw [← List.drop_drop, hd, ← enc_length x, List.drop_left]
  have hen : enc x = castsB (encN (wd x.f0) V x.f2) := by unfold enc; rw [hV]; rfl
  rw [hen] at htk
  refine ⟨fun h => ?_, fun h => ?_, fun h => ?_, hle, hdr⟩
  · rw [h] at htk hle ⊢
    have := take_item s A 1 [V % 256] false (V % 256) hs hle (by omega) rfl (by intro c hc; rw [List.mem_singleton.1 hc]; omega) htk (by rw [if_neg (by decide)]; simp [beN])
    unfold octet_Reader_Byte.f
    rw [show (1 : Int) = ((1 : Nat) : Int) from rfl, this, Option.bind_some]
    show some (((V % 256 : Nat) : Int) % 256, ((A + 1 : Nat) : Int), false) = some (((V % 256 : Nat) : Int), ((A + 1 : Nat) : Int), false)
    rw [show ((V % 256 : Nat) : Int) % 256 = ((V % 256 : Nat) : Int) from by omega]
  · rw [h] at htk hle ⊢
    obtain ⟨U, hU⟩ : ∃ U, V % 4294967296 = U := ⟨_, rfl⟩
    have hU2 : U < 4294967296 := by omega
    have ht2 : (s.drop A).take 4 = castsB (if x.f2 then b4 U else (b4 U).reverse) := by rw [← hU]; exact htk
    rw [hU]
    have := take_item s A 4 (if x.f2 then b4 U else (b4 U).reverse) x.f2 U hs hle (by omega) (by cases x.f2 <;> rfl) (by cases x.f2 <;> intro c hc <;> simp only [Bool.false_eq_true, if_false, if_true, List.mem_reverse] at hc <;> exact b4_byte U c hc) ht2 (by cases x.f2 <;> simp [b4_le U hU2, b4_be U hU2])
    unfold octet_Reader_Word32.f
    rw [show (4 : Int) = ((4 : Nat) : Int) from rfl, this, Option.bind_some]
    show some (((U : Nat) : Int) % 4294967296, ((A + 4 : Nat) : Int), false) = some ((U : Int), ((A + 4 : Nat) : Int), false)
    rw [show ((U : Nat) : Int) % 4294967296 = (U : Int) from by omega]
  · rw [h] at htk hle ⊢
    have ht2 : (s.drop A).take 8 = castsB (if x.f2 then b8 V else (b8 V).reverse) := htk
    have := take_item s A 8 (if x.f2 then b8 V else (b8 V).reverse) x.f2 V hs hle (by omega) (by cases x.f2 <;> rfl) (by cases x.f2 <;> intro c hc <;> simp only [Bool.false_eq_true, if_false, if_true, List.mem_reverse] at hc <;> exact b8_byte V c hc) ht2 (by cases x.f2 <;> simp [b8_le V hV2, b8_be V hV2])
    unfold octet_Reader_Word64.f
    rw [show (8 : Int) = ((8 : Nat) : Int) from rfl, this, Option.bind_some]
    rfl
theorem err_bad (s : List Int) (at_ : Int) : octet_Reader_Err.f s at_ true = some (some (at_ * 1024 + 160), at_, true) := by
  unfold octet_Reader_Err.f api_Wrap.f
  rw [if_pos rfl, if_pos (by omega)]
  rfl
theorem err_good (s : List Int) (at_ : Int) : octet_Reader_Err.f s at_ false = some (none, at_, false) := by
  unfold octet_Reader_Err.f
  rw [if_neg (by decide)]
theorem take_bad_f (s : List Int) (at_ n : Int) (le : Bool) : octet_Reader_take.f s at_ true n le = some (0, at_, true) := by
  unfold octet_Reader_take.f
  rw [if_pos rfl]
theorem back_step (L : List S43) (s : List Int) (hs : s.length ≤ 140737488355328) (k i A A' : Nat) (x : S43) (v : Int) (hil : i < L.length) (hx : L[i] = x) (hA : A' = A + wn (wd x.f0)) (hA2 : A' ≤ s.length) (hL : L.length ≤ 5864062014700) :
    plumblaw16_OctetBack.j1 (k + 1) L s (A : Int) (i : Int) v v s (A' : Int) false = plumblaw16_OctetBack.l0 k L s (A' : Int) ((i + 1 : Nat) : Int) s (A' : Int) false := by
  have hw := wn_range (wd x.f0)
  have e1 : wrap64 ((A : Int) + ((wn (wd x.f0) : Nat) : Int)) = (A' : Int) := by unfold wrap64; omega
  rw [plumblaw16_OctetBack.j1, if_pos (by omega), if_pos (by omega), rdT L i hil, hx, width_wf, Option.bind_some, if_pos rfl, e1]
  unfold octet_Reader_At.f
  rw [Option.bind_some]
  show (if (A' : Int) = (A' : Int) then _ else _) = _
  rw [if_pos rfl]
  unfold octet_Reader_Left.f
  rw [Option.bind_some]
  show (if wrap64 ((s.length : Int) - (A' : Int)) = wrap64 ((s.length : Int) - (A' : Int)) then _ else _) = _
  rw [if_pos rfl]
  show (octet_Reader_Err.f s (A' : Int) false).bind _ = _
  rw [err_good, Option.bind_some]
  show (if (none : Option Int).isNone = true then _ else _) = _
  rw [if_pos (show (none : Option Int).isNone = true from rfl), show wrap64 ((i : Int) + 1) = ((i + 1 : Nat) : Int) from by unfold wrap64; omega]
theorem u64_small (n : Nat) (h : n < 18446744073709551616) : IntKind.u64.wrap ((n : Nat) : Int) = (n : Int) := by rw [IntKind.wrap_u64]; omega
theorem back_l0 (L : List S43) (s : List Int) (hV : ∀ x ∈ L, 0 ≤ x.f1 ∧ x.f1 < 18446744073709551616) (hs : s.length ≤ 140737488355328) (hL : L.length ≤ 5864062014700) (E : ∀ k, 4 < k → plumblaw16_OctetBack.l0 k L s (s.length : Int) (L.length : Int) s (s.length : Int) false = some true) :
    ∀ (d k i A : Nat), i + d = L.length → 2 * d + 6 < k → A ≤ s.length → s.drop A = (L.drop i).flatMap enc → plumblaw16_OctetBack.l0 k L s (A : Int) (i : Int) s (A : Int) false = some true := by
  intro d
  induction d with
  | zero =>
    intro k i A hi hk hA hd
    have hl := congrArg List.length hd
    rw [List.drop_eq_nil_of_le (show L.length ≤ i by omega), List.length_drop] at hl
    have : A = s.length := by simp at hl; omega
    rw [this, show i = L.length from by omega]
    exact E k (by omega)
  | succ d ih =>
    intro k i A hi hk hA hd
    obtain ⟨k, rfl⟩ : ∃ m, k = m + 1 + 1 := ⟨k - 2, by omega⟩
    have hil : i < L.length := by omega
    obtain ⟨x, hx⟩ : ∃ x, L[i] = x := ⟨_, rfl⟩
    obtain ⟨h0, h1⟩ := hV _ (List.getElem_mem hil)
    rw [hx] at h0 h1
    obtain ⟨V, hVn⟩ := Int.eq_ofNat_of_zero_le h0
    rw [List.drop_eq_getElem_cons hil, hx, List.flatMap_cons] at hd
    obtain ⟨r0, r1, r2, r3, r4⟩ := enc_read x V hVn (by omega) s A _ hs hd hA
    have IH := ih k (i + 1) (A + wn (wd x.f0)) (by omega) (by omega) r3 r4
    have ST := fun v => (back_step L s hs k i A _ x v hil hx rfl r3 hL).trans IH
    rw [plumblaw16_OctetBack.l0, if_pos (by omega), if_pos (by omega), rdT L i hil, hx, wide_f, Option.bind_some]
    rcases wd_range x.f0 with h | h | h
    · rw [if_pos h, r0 h, Option.bind_some, hVn, Int.tmod_eq_emod_of_nonneg (by omega)]
      show plumblaw16_OctetBack.j1 (k + 1) L s (A : Int) (i : Int) (IntKind.u64.wrap ((V % 256 : Nat) : Int)) ((V : Int) % 256) s ((A + wn (wd x.f0) : Nat) : Int) false = _
      rw [u64_small (V % 256) (by omega), show ((V % 256 : Nat) : Int) = (V : Int) % 256 from by omega]
      exact ST _
    · rw [if_neg (by omega), if_pos h, r1 h, Option.bind_some, hVn, Int.tmod_eq_emod_of_nonneg (by omega)]
      show plumblaw16_OctetBack.j1 (k + 1) L s (A : Int) (i : Int) (IntKind.u64.wrap ((V % 4294967296 : Nat) : Int)) ((V : Int) % 4294967296) s ((A + wn (wd x.f0) : Nat) : Int) false = _
      rw [u64_small (V % 4294967296) (by omega), show ((V % 4294967296 : Nat) : Int) = (V : Int) % 4294967296 from by omega]
      exact ST _
    · rw [if_neg (by omega), if_neg (by omega), if_pos h, r2 h, Option.bind_some, hVn]
      exact ST _
theorem sameV_yes (c p : Int) (hc0 : 0 < c) (hc : c < 1024) : sameV (some (p * 1024 + c)) c p = true := by
  unfold sameV
  rw [if_neg (by omega)]
  simp only [Bool.and_eq_true, decide_eq_true_eq]
  omega
def tl12 : List Int := [1, 2, 3, 4, 5, 6, 7, 8, 4, 3, 2, 1]
theorem tl_w64 : octet_Reader_Word64.f tl12 0 false true = some (578437695752307201, 8, false) := by decide +kernel
theorem tl_w32 : octet_Reader_Word32.f tl12 8 false false = some (67305985, 12, false) := by decide +kernel
theorem tl_enc : enc (⟨2, 72623859790382856, false⟩ : S43) ++ enc (⟨1, 16909060, true⟩ : S43) = tl12 := by decide +kernel
theorem back_end (L : List S43) (s pre : List Int) (hs : s.length ≤ 140737488355328) (hp : s = pre ++ tl12) : ∀ k, 4 < k → plumblaw16_OctetBack.l0 k L s (s.length : Int) (L.length : Int) s (s.length : Int) false = some true := by
  intro k hk
  obtain ⟨k, rfl⟩ : ∃ m, k = m + 1 + 1 := ⟨k - 2, by omega⟩
  have hlen : s.length = pre.length + 12 := by rw [hp, List.length_append]; rfl
  have hsame : plumblaw16_sameErr.f (some ((s.length : Int) * 1024 + 160)) 160 (s.length : Int) = some true := by
    unfold plumblaw16_sameErr.f
    rw [sameV_yes 160 (s.length : Int) (by omega) (by omega)]
  have hb1 : octet_Reader_Byte.f s (s.length : Int) false = some (0, (s.length : Int), true) := by
    unfold octet_Reader_Byte.f octet_Reader_take.f
    rw [if_neg (by decide), if_pos ⟨⟨by omega, by omega, by omega⟩, by omega, by omega⟩, if_pos (by omega)]
    rfl
  have hb64 : octet_Reader_Word64.f s (s.length : Int) true true = some (0, (s.length : Int), true) := by
    unfold octet_Reader_Word64.f
    rw [take_bad_f]
    rfl
  have hb32 : octet_Reader_Word32.f s (s.length : Int) true false = some (0, (s.length : Int), true) := by
    unfold octet_Reader_Word32.f
    rw [take_bad_f]
    rfl
  rw [plumblaw16_OctetBack.l0, if_neg (by omega), if_pos rfl, hb1, Option.bind_some]
  show (if (0 : Int) = 0 then _ else _) = _
  rw [if_pos rfl]
  show (octet_Reader_Err.f s (s.length : Int) true).bind _ = _
  rw [err_bad, Option.bind_some]
  show (plumblaw16_sameErr.f (some ((s.length : Int) * 1024 + 160)) 160 (s.length : Int)).bind _ = _
  rw [hsame, Option.bind_some, if_pos rfl]
  show (octet_Reader_Word64.f s (s.length : Int) true true).bind _ = _
  rw [hb64, Option.bind_some]
  show (if (0 : Int) = 0 then _ else _) = _
  rw [if_pos rfl]
  show (octet_Reader_Word32.f s (s.length : Int) true false).bind _ = _
  rw [hb32, Option.bind_some]
  show (if (0 : Int) = 0 then _ else _) = _
  rw [if_pos rfl]
  show (octet_Reader_Err.f s (s.length : Int) true).bind _ = _
  rw [err_bad, Option.bind_some]
  show (plumblaw16_sameErr.f (some ((s.length : Int) * 1024 + 160)) 160 (s.length : Int)).bind _ = _
  rw [hsame, Option.bind_some, if_pos rfl]
  show (octet_Reader_At.f s (s.length : Int) true).bind _ = _
  unfold octet_Reader_At.f
  rw [Option.bind_some]
  show (if (s.length : Int) = (s.length : Int) then _ else _) = _
  rw [if_pos rfl]
  unfold octet_Reader_Left.f
  rw [Option.bind_some]
  show plumblaw16_OctetBack.j2 (k + 1) s (s.length : Int) (wrap64 ((s.length : Int) - (s.length : Int)) != 0) = _
  rw [show wrap64 ((s.length : Int) - (s.length : Int)) = 0 from by unfold wrap64; omega, plumblaw16_OctetBack.j2, if_neg (by decide), show wrap64 ((s.length : Int) - 12) = ((pre.length : Nat) : Int) from by unfold wrap64; omega, if_pos (by omega), if_pos (by omega), Int.toNat_natCast]
  have hdr : s.drop pre.length = tl12 := by rw [hp, List.drop_left]
  rw [hdr]
  unfold octet_NewReader.f
  rw [if_pos (by decide), Option.bind_some]
  show (octet_Reader_Word64.f tl12 0 false true).bind _ = _
  rw [tl_w64, Option.bind_some]
  show (if (578437695752307201 : Int) = 578437695752307201 then _ else _) = _
  rw [if_pos rfl]
  show (octet_Reader_Word32.f tl12 8 false false).bind _ = _
  rw [tl_w32, Option.bind_some]
  rfl
theorem OctetBack (l : List S43) (hl : l.length ≤ 5864062014634) (hV : ∀ x ∈ l, 0 ≤ x.f1 ∧ x.f1 < 18446744073709551616) : ∃ k, plumblaw16_OctetBack.f k l = some true := by
  obtain ⟨k, hk⟩ : ∃ k : Nat, 3 * l.length + 100 < k := ⟨3 * l.length + 101, by omega⟩
  refine ⟨k, ?_⟩
  obtain ⟨L, hL⟩ : ∃ L, l ++ [(⟨2, 72623859790382856, false⟩ : S43), (⟨1, 16909060, true⟩ : S43)] = L := ⟨_, rfl⟩
  have hLl : L.length = l.length + 2 := by rw [← hL]; simp
  have hVL : ∀ x ∈ L, 0 ≤ x.f1 ∧ x.f1 < 18446744073709551616 := by
    intro x hx
    rw [← hL] at hx
    rcases List.mem_append.1 hx with hx | hx
    · exact hV x hx
    · simp only [List.mem_cons, List.not_mem_nil, or_false] at hx
      rcases hx with rfl | rfl
      · exact ⟨by decide, by decide⟩
      · exact ⟨by decide, by decide⟩
  unfold plumblaw16_OctetBack.f
  rw [Option.bind_some, if_pos (by simp; omega), List.nil_append, Option.bind_some, Option.bind_some, if_pos (by simp; omega), hL, Option.bind_some, laid_spec L k hVL (by omega) (by omega), Option.bind_some]
  have hlen := encs_len L
  obtain ⟨s, hs⟩ : ∃ s, L.flatMap enc = s := ⟨_, rfl⟩
  rw [hs] at hlen ⊢
  unfold octet_NewReader.f
  rw [if_pos (by omega), Option.bind_some]
  have hp : s = l.flatMap enc ++ tl12 := by rw [← hs, ← hL, List.flatMap_append, ← tl_enc]; simp [List.flatMap_cons]
  exact back_l0 L s hVL (by omega) (by omega) (back_end L s _ (by omega) hp) L.length k 0 0 (by omega) (by omega) (by omega) (by simpa using hs.symm)

end Go.Proofs.YtenomaibgpbonaaDoor.Pure
