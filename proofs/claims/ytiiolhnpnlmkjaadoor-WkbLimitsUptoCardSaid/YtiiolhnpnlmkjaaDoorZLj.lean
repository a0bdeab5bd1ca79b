/- Texts of this claim laid one behind the other (TPB; TMkT; TGrown; TParseL; TEqSem; TSame; TEqualW): what each proves stands at its own names; the last one is the claim's. No conditions but those told. -/
import Derived.Test.YtiiolhnpnlmkjaaDoorZLi
import Derived.BigQuiet
import Derived.RangeFuncRecord
namespace Go.Proofs.YtiiolhnpnlmkjaaDoor.Tree
open Go.RowKit Go.Proofs.YtiiolhnpnlmkjaaDoor.PWkbPrints Go.Proofs.YtiiolhnpnlmkjaaDoorW.PrintWords Go.Proofs.YtiiolhnpnlmkjaaDoorW.PrintLast Go.Proofs.YtiiolhnpnlmkjaaDoorW.PrintMore Go.Proofs.YtiiolhnpnlmkjaaDoor.Rdr
set_option linter.unusedVariables false
/-! ### the parts -/
theorem St.drop {b X : List Int} {a : Nat} (h : St b a X) : b.drop a = X ++ b.drop (a + X.length) := by
  obtain ⟨t, h⟩ := h
  rw [← List.drop_drop, h, List.drop_left]
section
variable {b : List Int} (hb : Byt b)
include hb
end
/-! ### the finder's walk -/
/-! ### what is taken -/
theorem gd_mk {g : Ge} {lvl o : Int} (h1 : shapedB ⟨g, lvl, o⟩ = true) (h2 : finL (own g) = true) (h3 : ∀ q ∈ own g, Rg q) (h4 : ∀ p ∈ g.f3, AllG p (lvl + 1) g.f0) : AllG g lvl o := by
  intro x hx
  rw [nodes_eq] at hx
  rcases List.mem_cons.1 hx with rfl | hx
  · exact ⟨h1, h2, h3⟩
  · rw [nodesL_flat] at hx
    obtain ⟨l, hl, hx⟩ := List.mem_flatten.1 hx
    obtain ⟨p, hp, rfl⟩ := List.mem_map.1 hl
    exact h4 p hp x hx
theorem deep_mk {g : Ge} {lvl o deep : Int} (h1 : lvl ≤ deep) (h4 : ∀ p ∈ g.f3, ∀ x ∈ nodes p (lvl + 1) g.f0, x.f1 ≤ deep) : ∀ x ∈ nodes g lvl o, x.f1 ≤ deep := by
  intro x hx
  rw [nodes_eq] at hx
  rcases List.mem_cons.1 hx with rfl | hx
  · exact h1
  · rw [nodesL_flat] at hx
    obtain ⟨l, hl, hx⟩ := List.mem_flatten.1 hx
    obtain ⟨p, hp, rfl⟩ := List.mem_map.1 hl
    exact h4 p hp x hx
theorem shaped_mk {k o lvl : Int} {l : List Pt} {r : List (List Pt)} {ps : List Ge} (hk : 1 ≤ k ∧ k ≤ 7) (hf : fitsB k o = true) (h1 : 2 < k → l = []) (h2 : k ≠ 3 → r = []) (h3 : k < 4 → ps = []) (h4 : ∀ x ∈ r, x ≠ []) (h5 : k = 1 → l.length ≤ 1) : shapedB ⟨⟨k, l, r, ps⟩, lvl, o⟩ = true := by
  unfold shapedB kindB lacksB
  simp only [Bool.and_eq_true, Bool.or_eq_true, decide_eq_true_iff, Bool.not_eq_true', Bool.or_eq_false_iff, Bool.and_eq_false_iff, decide_eq_false_iff_not, List.all_eq_true]
  refine ⟨hk, hf, ⟨?_, ?_, ?_⟩, ?_, ?_⟩
  · by_cases c : 2 < k
    · rw [h1 c]; simp
    · exact .inr c
  · by_cases c : k = 3
    · exact .inr (by simpa using c)
    · rw [h2 c]; simp
  · by_cases c : k < 4
    · rw [h3 c]; simp
    · exact .inr c
  · intro x hx
    have := h4 x hx
    cases x
    · exact absurd rfl this
    · rfl
  · by_cases c : k = 1
    · exact .inr (h5 c)
    · exact .inl c
/-! ### where it gives up -/
/-- An error's place lies between two. -/
def Gone {α : Type} (r : Except (Int × Int) α) (a e : Nat) : Prop := ∀ x, r = .error x → (a : Int) ≤ x.1 ∧ x.1 ≤ e
theorem Gone.map {α β : Type} {r : Except (Int × Int) α} {a e : Nat} (h : Gone r a e) (f : α → β) : Gone (r.map f) a e := by
  intro x hx
  cases r with
  | error y => injection hx with hx; exact h x (by rw [hx])
  | ok v => cases hx
theorem Gone.mono {α : Type} {r : Except (Int × Int) α} {a a' e : Nat} (h : Gone r a' e) (ha : a ≤ a') : Gone r a e := by
  intro x hx
  have := h x hx
  omega
end Go.Proofs.YtiiolhnpnlmkjaaDoor.Tree
namespace Go.Proofs.YtiiolhnpnlmkjaaDoor.Tree
open Go.RowKit Go.Proofs.YtiiolhnpnlmkjaaDoor.PWkbPrints Go.Proofs.YtiiolhnpnlmkjaaDoorW.PrintWords Go.Proofs.YtiiolhnpnlmkjaaDoorW.PrintLast Go.Proofs.YtiiolhnpnlmkjaaDoorW.PrintMore Go.Proofs.YtiiolhnpnlmkjaaDoor.PMk
set_option linter.unusedVariables false
set_option linter.unusedSimpArgs false
attribute [local go_sem] Oper.semAt_some max2_int max_two min2_int min_two
/-! ### finite patterns -/
theorem fin_bits (q : Nat) : (q &&& 4094) &&& 2047 ≠ 2047 := by
  rw [Nat.and_assoc, show 4094 &&& 2047 = 2046 from by decide]
  have : q &&& 2046 ≤ 2046 := Nat.and_le_right
  omega
theorem expo_nat (n : Nat) (h : n < 18446744073709551616) : expo (n : Int) = ((n / 4503599627370496 &&& 2047 : Nat) : Int) := by
  unfold expo
  rw [show ((n : Int) / 4503599627370496) = ((n / 4503599627370496 : Nat) : Int) from by omega]
  have h1 := u64_and_nat (n / 4503599627370496) 2047 (by omega) (by omega)
  rw [show ((2047 : Nat) : Int) = 2047 from rfl] at h1
  rw [h1]
  have h2 : n / 4503599627370496 &&& 2047 ≤ 2047 := Nat.and_le_right
  unfold wrap64
  omega
theorem finM_ok (b : Int) (h0 : 0 ≤ b) (h1 : b < 18446744073709551616) : (0 ≤ finM b ∧ finM b < 18446744073709551616) ∧ classOf (finM b) ≤ 2 := by
  obtain ⟨n, rfl⟩ := Int.eq_ofNat_of_zero_le h0
  have hn : n < 18446744073709551616 := by omega
  have hand := u64_and_nat (n / 4503599627370496) 2047 (by omega) (by omega)
  rw [show ((2047 : Nat) : Int) = 2047 from rfl] at hand
  have hdiv : ((n : Int) / 4503599627370496) = ((n / 4503599627370496 : Nat) : Int) := by omega
  have key : ∀ m : Nat, m < 18446744073709551616 → (m / 4503599627370496 &&& 2047) ≠ 2047 → classOf (m : Int) ≤ 2 := by
    intro m hm hne
    have h2 := finC_iff (m : Int)
    rw [expo_nat m hm] at h2
    have h3 : decide (((m / 4503599627370496 &&& 2047 : Nat) : Int) ≠ 2047) = true := decide_eq_true (by omega)
    rw [h3] at h2
    unfold finC at h2
    exact of_decide_eq_true h2
  unfold finM
  rw [hdiv, hand]
  by_cases c : ((n / 4503599627370496 &&& 2047 : Nat) : Int) = 2047
  · rw [if_pos c]
    have h2 := u64_andNot_nat n 4503599627370496 hn (by omega)
    rw [show ((4503599627370496 : Nat) : Int) = 4503599627370496 from rfl] at h2
    rw [h2]
    have h3 : n &&& (18446744073709551615 - 4503599627370496) < 2 ^ 64 := Nat.and_lt_two_pow _ (by decide)
    have h4 : (n &&& (18446744073709551615 - 4503599627370496)) / 4503599627370496 = (n / 4503599627370496) &&& 4094 := by
      have h5 := Nat.shiftRight_and_distrib (a := n) (b := 18446744073709551615 - 4503599627370496) (i := 52)
      rw [Nat.shiftRight_eq_div_pow, Nat.shiftRight_eq_div_pow, Nat.shiftRight_eq_div_pow] at h5
      exact h5
    refine ⟨⟨by omega, by omega⟩, key _ (by simpa using h3) ?_⟩
    rw [h4]
    exact fin_bits _
  · rw [if_neg c]
    exact ⟨⟨by omega, h1⟩, key n hn (fun e => c (by rw [e]; rfl))⟩
/-! ### the trees -/
def Xy (l : List Wn) : Prop := ∀ x ∈ l, ∀ y ∈ x.f2, 0 ≤ y ∧ y < 18446744073709551616
theorem takeM_xy {l : List Wn} (h : Xy l) (nx : Nat) : ∀ y ∈ (takeM l nx).1.f2, 0 ≤ y ∧ y < 18446744073709551616 := by
  unfold takeM
  split
  · intro y hy; cases hy
  · rename_i c
    refine h _ ?_
    rw [rd_Wn, Int.toNat_natCast, List.getD_eq_getElem?_getD, List.getElem?_eq_getElem (by omega)]
    exact List.getElem_mem _
theorem ptM_ok {xy : List Int} (h : ∀ y ∈ xy, 0 ≤ y ∧ y < 18446744073709551616) (i : Nat) : Rg (ptM xy i) ∧ classOf (ptM xy i).f0 ≤ 2 ∧ classOf (ptM xy i).f1 ≤ 2 := by
  unfold ptM
  split
  · rename_i c
    have hm : ∀ j : Nat, j < xy.length → rd xy (j : Int) ∈ xy := fun j hj => by
      rw [rd, Int.toNat_natCast, List.getD_eq_getElem?_getD, List.getElem?_eq_getElem hj]
      exact List.getElem_mem _
    have h1 := h _ (hm (2 * i) (by omega))
    have h2 := h _ (hm (2 * i + 1) c)
    have k1 := finM_ok _ h1.1 h1.2
    have k2 := finM_ok _ h2.1 h2.2
    exact ⟨⟨k1.1, k2.1⟩, k1.2, k2.2⟩
  · refine ⟨⟨⟨?_, ?_⟩, ?_, ?_⟩, ?_, ?_⟩ <;> (unfold onePt; dsimp only)
    · decide
    · decide
    · decide
    · decide
    · have : classOf 4607182418800017408 = 2 := by kernel_rfl
      rw [this]; decide
    · have : classOf 4607182418800017408 = 2 := by kernel_rfl
      rw [this]; decide
theorem ptsM_ok {xy : List Int} (h : ∀ y ∈ xy, 0 ≤ y ∧ y < 18446744073709551616) (n : Nat) : finL (ptsM xy n) = true ∧ ∀ q ∈ ptsM xy n, Rg q := by
  refine ⟨?_, ?_⟩
  · unfold finL finLC finC
    rw [List.all_eq_true]
    intro q hq
    obtain ⟨i, hi, rfl⟩ := List.mem_map.1 hq
    have := ptM_ok h i
    rw [Bool.and_eq_true]
    exact ⟨decide_eq_true this.2.1, decide_eq_true this.2.2⟩
  · intro q hq
    obtain ⟨i, hi, rfl⟩ := List.mem_map.1 hq
    exact (ptM_ok h i).1
theorem partsM_all {P : Ge → Prop} (f : Nat → Ge × Nat) (h : ∀ nx, P (f nx).1) : ∀ (m nx : Nat), ∀ p ∈ (partsM f m nx).1, P p := by
  intro m
  induction m with
  | zero => intro nx p hp; cases hp
  | succ m ih =>
    intro nx p hp
    rw [partsM] at hp
    rcases List.mem_cons.1 hp with rfl | hp
    · exact h nx
    · exact ih _ p hp
theorem bulks_all (B : Nat) : ∀ (l : List Ge), (∀ p ∈ l, p.bulk ≤ B) → bulks l ≤ l.length * B := by
  intro l
  induction l with
  | nil => intro _; simp [bulks]
  | cons p l ih =>
    intro h
    rw [bulks, List.length_cons, Nat.add_mul]
    have h1 := h p List.mem_cons_self
    have h2 := ih (fun q hq => h q (List.mem_cons_of_mem _ hq))
    omega
def Fit (kind o : Int) : Prop := (o = 0 ∧ kind = 0) ∨ (o = 7 ∧ kind = 0) ∨ (4 ≤ o ∧ o ≤ 6 ∧ kind = o - 3)
theorem rings_small (xy : List Int) (m : Nat) (hm : m < 5) : ((List.range m).map fun i => ptsM xy (1 + i)).flatten.length ≤ 10 := by
  rw [List.length_flatten, List.map_map]
  have : (List.map (List.length ∘ fun i => ptsM xy (1 + i)) (List.range m)) = List.map (fun i => 1 + i) (List.range m) := List.map_congr_left fun i _ => by simp [ptsM_len]
  rw [this]
  match m, hm with
  | 0, _ => decide
  | 1, _ => decide
  | 2, _ => decide
  | 3, _ => decide
  | 4, _ => decide
theorem mkG_ok {l : List Wn} (hx : Xy l) (f : Nat) : ∀ (nx : Nat) (kind levels lvl o : Int) (L : Nat), levels = (L : Int) + 1 → L + 1 ≤ f → Fit kind o →
    AllG (mkG l f nx kind levels).1 lvl o ∧ (∀ x ∈ nodes (mkG l f nx kind levels).1 lvl o, x.f1 ≤ lvl + L) ∧ (mkG l f nx kind levels).1.bulk + 1 ≤ 16 * 4 ^ L := by
  induction f with
  | zero => intro nx kind levels lvl o L _ h; omega
  | succ f ih =>
    intro nx kind levels lvl o L hL hf hfit
    have hkind : 0 ≤ kind ∧ kind ≤ 7 := by unfold Fit at hfit; omega
    have hkr := kindM_range (takeM l nx).1 kind levels hkind
    have hxy := takeM_xy hx nx
    have hm5 := (manyM_lt (takeM l nx).1).1
    obtain ⟨x, hx_⟩ : ∃ y, y = (takeM l nx).1 := ⟨_, rfl⟩
    obtain ⟨n1, hn1⟩ : ∃ y, y = (takeM l nx).2 := ⟨_, rfl⟩
    unfold mkG
    rw [← hx_] at hkr hxy hm5
    rw [← hx_, ← hn1]
    obtain ⟨k, hk⟩ : ∃ y, y = kindM x kind levels := ⟨_, rfl⟩
    rw [← hk] at hkr ⊢
    obtain ⟨m, hm⟩ : ∃ y, y = manyM x := ⟨_, rfl⟩
    rw [← hm] at hm5 ⊢
    have hfb : fitsB k o = true := by
      unfold fitsB
      unfold Fit at hfit
      split
      · exact decide_eq_true (by omega)
      · rfl
    have hpow : 0 < 4 ^ L := Nat.pow_pos (by decide)
    by_cases k1 : k = 1
    · rw [if_pos k1]
      have hok := ptsM_ok hxy (m % 2)
      refine ⟨gd_mk (shaped_mk (by omega) (by rw [← k1]; exact hfb) (fun h => absurd h (by decide)) (fun _ => rfl) (fun _ => rfl) (by simp) (fun _ => by rw [ptsM_len]; omega)) (by simpa [own] using hok.1) (by simpa [own] using hok.2) (by simp), deep_mk (by omega) (by simp), ?_⟩
      rw [Ge.bulk_eq]
      simp only [List.length_nil, List.flatten_nil, bulks, ptsM_len]
      omega
    rw [if_neg k1]
    by_cases k2 : k = 2
    · rw [if_pos k2]
      have hok := ptsM_ok hxy m
      refine ⟨gd_mk (shaped_mk (by omega) (by rw [← k2]; exact hfb) (fun h => absurd h (by decide)) (fun _ => rfl) (fun _ => rfl) (by simp) (fun h => absurd h (by decide))) (by simpa [own] using hok.1) (by simpa [own] using hok.2) (by simp), deep_mk (by omega) (by simp), ?_⟩
      rw [Ge.bulk_eq]
      simp only [List.length_nil, List.flatten_nil, bulks, ptsM_len]
      omega
    rw [if_neg k2]
    by_cases k3 : k = 3
    · rw [if_pos k3]
      refine ⟨gd_mk (shaped_mk (by omega) (by rw [← k3]; exact hfb) (fun _ => rfl) (fun h => absurd rfl h) (fun _ => rfl) ?_ (fun h => absurd h (by decide))) ?_ ?_ (by simp), deep_mk (by omega) (by simp), ?_⟩
      · intro r hr e
        obtain ⟨i, hi, rfl⟩ := List.mem_map.1 hr
        have := congrArg List.length e
        rw [ptsM_len] at this
        simp at this
      · rw [finL_own, Bool.and_eq_true, List.all_eq_true]
        refine ⟨rfl, fun r hr => ?_⟩
        obtain ⟨i, hi, rfl⟩ := List.mem_map.1 hr
        exact (ptsM_ok hxy _).1
      · intro q hq
        unfold own at hq
        rw [List.nil_append] at hq
        obtain ⟨r, hr, hq⟩ := List.mem_flatten.1 hq
        obtain ⟨i, hi, rfl⟩ := List.mem_map.1 hr
        exact (ptsM_ok hxy _).2 q hq
      · have h10 := rings_small x.f2 m hm5
        rw [Ge.bulk_eq]
        simp only [List.length_nil, bulks, List.length_map, List.length_range]
        omega
    rw [if_neg k3]
    have hL1 : 1 ≤ L := by omega
    obtain ⟨L', rfl⟩ : ∃ L', L = L' + 1 := ⟨L - 1, by omega⟩
    obtain ⟨pk, hpk⟩ : ∃ y, y = (if k = 7 then 0 else k - 3) := ⟨_, rfl⟩
    rw [← hpk]
    have hfp : Fit pk k := by
      unfold Fit
      rw [hpk]
      split <;> omega
    have hall : ∀ nx, AllG (mkG l f nx pk (levels - 1)).1 (lvl + 1) k ∧ (∀ x ∈ nodes (mkG l f nx pk (levels - 1)).1 (lvl + 1) k, x.f1 ≤ lvl + 1 + L') ∧ (mkG l f nx pk (levels - 1)).1.bulk + 1 ≤ 16 * 4 ^ L' := fun nx =>
      ih nx pk (levels - 1) (lvl + 1) k L' (by omega) (by omega) hfp
    have hps := partsM_all (P := fun p => AllG p (lvl + 1) k ∧ (∀ x ∈ nodes p (lvl + 1) k, x.f1 ≤ lvl + 1 + L') ∧ p.bulk + 1 ≤ 16 * 4 ^ L') (fun p => mkG l f p pk (levels - 1)) hall m n1
    have hlen := partsM_len (fun p => mkG l f p pk (levels - 1)) m n1
    generalize (partsM (fun p => mkG l f p pk (levels - 1)) m n1).1 = ps at hps hlen
    refine ⟨gd_mk (shaped_mk (by omega) hfb (fun _ => rfl) (fun _ => rfl) (fun h => by omega) (by simp) (fun h => absurd h k1)) rfl (by simp [own]) (fun p hp => (hps p hp).1), deep_mk (by omega) (fun p hp y hy => ?_), ?_⟩
    · have := (hps p hp).2.1 y hy
      omega
    · have hb := bulks_all (16 * 4 ^ L' - 1) ps (fun p hp => by have := (hps p hp).2.2; omega)
      rw [hlen] at hb
      rw [Ge.bulk_eq]
      simp only [List.length_nil, List.flatten_nil]
      have h4 : m * (16 * 4 ^ L' - 1) ≤ 4 * (16 * 4 ^ L' - 1) := Nat.mul_le_mul_right _ (by omega)
      have h1' : 0 < 4 ^ L' := Nat.pow_pos (by decide)
      rw [Nat.pow_succ]
      omega
/-- The tree that grown makes. -/
def treeM (l : List Wn) : Ge := (mkG l 6 0 0 6).1
theorem scan_none : ∀ (l : List It) (k n : Nat), (∀ x ∈ l, shapedB x = true ∧ finL (own x.f0) = true ∧ x.f1 ≤ 256) → n + l.length + ptsOf l ≤ 65536 → scanC k n l = none := by
  intro l
  induction l with
  | nil => intro k n _ _; rfl
  | cons x l ih =>
    intro k n h hn
    rw [List.length_cons, ptsOf_cons] at hn
    obtain ⟨h1, h2, h3⟩ := h x List.mem_cons_self
    have hw : wrongC x ((n + 1 + (own x.f0).length : Nat) : Int) = 0 := by
      rw [wrong_eq, if_neg (by omega), if_pos h1, if_neg (by omega), if_pos h2]
    rw [scanC_cons, if_pos hw]
    exact ih _ _ (fun y hy => h y (List.mem_cons_of_mem _ hy)) (by omega)
theorem nodes_wt (g : Ge) : ∀ lvl o : Int, (nodes g lvl o).length + ptsOf (nodes g lvl o) ≤ g.bulk := by
  induction g using Ge.ind with
  | h g ih =>
    intro lvl o
    rw [nodes_eq, List.length_cons, ptsOf_cons]
    have hq := g.bulk_eq
    have ho : (own g).length = g.f1.length + g.f2.flatten.length := by unfold own; rw [List.length_append]
    have : ∀ ps : List Ge, (∀ p ∈ ps, p ∈ g.f3) → (nodesL ps (lvl + 1) g.f0).length + ptsOf (nodesL ps (lvl + 1) g.f0) ≤ bulks ps := by
      intro ps
      induction ps with
      | nil => intro _; simp [nodesL, bulks, ptsOf]
      | cons p ps ihp =>
        intro h
        have h1 := ih p (h p List.mem_cons_self) (lvl + 1) g.f0
        have h2 := ihp (fun q hq => h q (List.mem_cons_of_mem _ hq))
        have h3 : ∀ a b : List It, ptsOf (a ++ b) = ptsOf a + ptsOf b := by
          intro a b
          induction a with
          | nil => simp [ptsOf]
          | cons x a iha => rw [List.cons_append, ptsOf_cons, ptsOf_cons, iha]; omega
        simp only [nodesL, bulks, List.length_append, h3]
        omega
    have := this g.f3 (fun _ h => h)
    dsimp only
    omega
theorem check_ok {g : Ge} (h : AllG g 1 0) (hd : ∀ x ∈ nodes g 1 0, x.f1 ≤ 256) (hb : g.bulk ≤ 65536) : checkR g = none := by
  refine scan_none _ 0 0 (fun x hx => ⟨(h x hx).s, (h x hx).f, hd x hx⟩) ?_
  have := nodes_wt g 1 0
  omega
theorem treeM_ok {l : List Wn} (hx : Xy l) : AllG (treeM l) 1 0 ∧ (∀ x ∈ nodes (treeM l) 1 0, x.f1 ≤ 6) ∧ (treeM l).bulk ≤ 16384 ∧ checkR (treeM l) = none := by
  have h := mkG_ok hx 6 0 0 6 1 0 5 (by decide) (by decide) (.inl ⟨rfl, rfl⟩)
  have h1 : (treeM l).bulk + 1 ≤ 16 * 4 ^ 5 := h.2.2
  have h2 : (16 * 4 ^ 5 : Nat) = 16384 := by decide
  have h3 : ∀ x ∈ nodes (treeM l) 1 0, x.f1 ≤ 6 := fun x hx => by have := h.2.1 x hx; omega
  exact ⟨h.1, h3, by omega, check_ok h.1 (fun x hx => by have := h3 x hx; omega) (by omega)⟩
end Go.Proofs.YtiiolhnpnlmkjaaDoor.Tree
namespace Go.Proofs.YtiiolhnpnlmkjaaDoor.Tree
open Go.RowKit Go.Proofs.YtiiolhnpnlmkjaaDoor.PWkbPrints Go.Proofs.YtiiolhnpnlmkjaaDoorW.PrintWords Go.Proofs.YtiiolhnpnlmkjaaDoorW.PrintLast Go.Proofs.YtiiolhnpnlmkjaaDoorW.PrintMore Go.Proofs.YtiiolhnpnlmkjaaDoor.PMk
set_option linter.unusedVariables false
set_option linter.unusedSimpArgs false
attribute [local go_sem] Oper.semAt_some max2_int max_two min2_int min_two
set_option maxRecDepth 100000 in
set_option maxHeartbeats 16000000 in
theorem grown_calls (A : Option Addr) (c : Nat) (l : List Wn) (W : World) (hC : Kd.C kWn W A l.length l) (hl : l.length ≤ 1048576) (hxl : ∀ x ∈ l, x.f2.length ≤ 1048576) (hxy : Xy l) :
    Calls Tryd.prog 26 #[.slice A l.length c] W fun e W' => ∃ u, e = .returned (.tuple #[u, .bool true]) ∧ CopyOf 6 W W' u (treeM l) ∧ Below W.heap.size W W' := by
  have hu := Tryd.underlying28
  have hum := Tryd.underlying106
  have hmx : Tryd.prog.follows .mixedOrders = true := by kernel_rfl
  have HC := Aside0.mk hC
  have HT := Aside0.mk (treeM_ok hxy)
  clear hC
  go_enter Tryd.func26, Tryd.ntmps26
  go_upto_region 1 with fail
  obtain ⟨gs, hgs⟩ : ∃ y, y = W.heap.size := ⟨_, rfl⟩
  obtain ⟨W0, hW0⟩ : ∃ y, y = W.alloc (.cells #[.int .i64 0, .slice none 0 0, .slice none 0 0, .slice none 0 0] 28) := ⟨_, rfl⟩
  rw [← hW0, ← hgs]
  have hb0 : Below W.heap.size W W0 := by rw [hW0]; exact below_alloc (Below.refl _ _) _
  have H0 := Aside0.mk (And.intro hb0 (show W0.heap[gs]? = some (.cells #[.int .i64 0, .slice none 0 0, .slice none 0 0, .slice none 0 0] 28 (0, 0)) by rw [hW0, hgs]; exact World.alloc_heap_new _ _))
  have HGS := Aside0.mk (show W.heap.size ≤ gs by omega)
  clear hW0 hgs hb0
  go_upto_region 2 with fail
  obtain ⟨gm, hgm⟩ : ∃ y, y = W0.heap.size := ⟨_, rfl⟩
  obtain ⟨W1, hW1⟩ : ∃ y, y = W0.alloc (.cells #[.slice A l.length c, .int .i64 0] 106) := ⟨_, rfl⟩
  rw [← hW1, ← hgm]
  have hb1 : Below W0.heap.size W0 W1 := by rw [hW1]; exact below_alloc (Below.refl _ _) _
  have hk1 : Mk W W1 gm l A c 0 := ⟨by rw [hW1, hgm]; exact World.alloc_heap_new _ _, HC.out, by rw [hgm]; exact H0.out.1.size, below_step H0.out.1 hb1, by omega⟩
  have H1 := Aside0.mk (And.intro hk1 (blk_below H0.out.2 hb1))
  clear hW1 hgm hb1 hk1 H0
  go_wp2_with fail
  refine (mgeom_calls 6 W W1 gm l A c 0 0 6 H1.out.1 hl hxl (by decide) (by decide) (by decide) (by decide) (by decide)).mono ?_
  rintro e W2 ⟨u, rfl, hcp, hk2, hv2⟩
  have hcp' : CopyOf 6 W1 W2 u (treeM l) := hcp
  have HGW := Aside0.mk (show W.heap.size ≤ W1.heap.size ∧ gs < W1.heap.size from ⟨H1.out.1.K.size, blk_lt H1.out.2⟩)
  obtain ⟨g, hg⟩ : ∃ y, y = treeM l := ⟨_, rfl⟩
  rw [← hg] at hcp' HT
  have HGE := Aside0.mk hg
  have hag := hcp'.isG
  obtain ⟨A1, c1, A2, c2, A3, c3, rfl, _⟩ := hag
  have H2 := Aside0.mk (And.intro hk2.K (And.intro hcp' (H1.out.1.keepB hv2 H1.out.2 (by decide))))
  clear hcp hk2 hv2 hcp' H1 hg
  go_upto_region 3 with fail
  obtain ⟨gt, hgt⟩ : ∃ y, y = W2.heap.size := ⟨_, rfl⟩
  obtain ⟨W3, hW3⟩ : ∃ y, y = W2.alloc (.cells #[.int .i64 g.f0, .slice A1 g.f1.length c1, .slice A2 g.f2.length c2, .slice A3 g.f3.length c3] 28) := ⟨_, rfl⟩
  rw [← hW3, ← hgt]
  have hb3 : Below W2.heap.size W2 W3 := by rw [hW3]; exact below_alloc (Below.refl _ _) _
  have H3 := Aside0.mk (And.intro (below_step H2.out.1 hb3) (And.intro (H2.out.2.1.below hb3) (And.intro (blk_below H2.out.2.2 hb3) (show W3.heap[gt]? = some (.cells #[.int .i64 g.f0, .slice A1 g.f1.length c1, .slice A2 g.f2.length c2, .slice A3 g.f3.length c3] 28 (0, 0)) by rw [hW3, hgt]; exact World.alloc_heap_new _ _))))
  have HGT := Aside0.mk (show gs < gt by have := blk_lt H2.out.2.2; omega)
  clear hW3 hgt hb3 H2
  have hbd : Below W3.heap.size W3 W3.drew := below_drew (Below.refl _ _)
  have H4 := Aside0.mk (And.intro (below_step H3.out.1 hbd) (And.intro (H3.out.2.1.below hbd) (And.intro (blk_below H3.out.2.2.1 hbd) (blk_below H3.out.2.2.2 hbd))))
  refine start_ (n := 6) (S := fun w' => w'.cell? ⟨gt, 0, none⟩ = some (.int .i64 g.f0) ∧ w'.cell? ⟨gt, 1, none⟩ = some (.slice A1 g.f1.length c1) ∧ w'.cell? ⟨gt, 2, none⟩ = some (.slice A2 g.f2.length c2) ∧ w'.cell? ⟨gt, 3, none⟩ = some (.slice A3 g.f3.length c3) ∧ True) (ds := []) #[false, false, false, false, false, false] hmx rfl rfl ⟨(blk_cell H4.out.2.2.2 0).trans rfl, (blk_cell H4.out.2.2.2 1).trans rfl, (blk_cell H4.out.2.2.2 2).trans rfl, (blk_cell H4.out.2.2.2 3).trans rfl, trivial⟩ (fun hHeld => ?_)
  clear H3 hbd
  generalize W3.drew = Wd at *
  (refine take_ (i := 0) (N := some 11) (v := ?_) (a' := ?_) #[true, false, false, false, false, false] rfl rfl (by kernel_rfl) (fun _ _ _ h => h) (Or.inl ⟨by rfl, ?_⟩) hHeld ?_ ?_; rotate_left; (focus (intro w'_ hs_; (repeat obtain ⟨_, hs_⟩ := hs_); go_simp; with_reducible rfl)); rotate_left; (focus (simp only [Act.put, List.setIfInBounds_toArray, List.set_cons_zero, List.set_cons_succ]; rfl)))
  (refine take_ (i := 1) (N := some 12) (v := ?_) (a' := ?_) #[true, true, false, false, false, false] rfl rfl (by kernel_rfl) (fun _ _ _ h => h) (Or.inl ⟨by rfl, ?_⟩) hHeld ?_ ?_; rotate_left; (focus (intro w'_ hs_; (repeat obtain ⟨_, hs_⟩ := hs_); go_simp; with_reducible rfl)); rotate_left; (focus (simp only [Act.put, List.setIfInBounds_toArray, List.set_cons_zero, List.set_cons_succ]; rfl)))
  refine one_ (i := 2) (N := some 13) #[true, true, true, false, false, false] rfl rfl (by kernel_rfl) (by decide) (fun K hK => ?_)
  refine goes_ Tryd.func44 (by kernel_rfl) rfl #[.agg #[.int .i64 g.f0, .slice A1 g.f1.length c1, .slice A2 g.f2.length c2, .slice A3 g.f3.length c3]] (by rfl) rfl rfl (by (try simp only [List.map_toArray, List.map_cons, List.map_nil]); first | done | rfl) ?_
  refine (check_calls _ g Wd H4.out.2.1.isG (by have := HT.out.2.2.1; omega)).mono ?_
  rintro e W5 ⟨ev, rfl, hev, hb5⟩
  rw [HT.out.2.2.2] at hev
  obtain rfl : ev = .nilIface := hev
  have H5 := Aside0.mk (And.intro (below_step H4.out.1 hb5) (And.intro (H4.out.2.1.below hb5) (And.intro (blk_below H4.out.2.2.1 hb5) (blk_below H4.out.2.2.2 hb5))))
  refine ⟨_, rfl, hK.out _ _ ⟨(blk_cell H5.out.2.2.2 0).trans rfl, (blk_cell H5.out.2.2.2 1).trans rfl, (blk_cell H5.out.2.2.2 2).trans rfl, (blk_cell H5.out.2.2.2 3).trans rfl, trivial⟩ (fun hHeld2 => ?_)⟩
  clear hK K hHeld hb5 H4
  (refine norm_ (a' := ?_) ?_ ?_; rotate_left; focus (show Act.put _ (some 13) _ = _; simp only [Act.put, List.setIfInBounds_toArray, List.set_cons_zero, List.set_cons_succ]; rfl))
  (refine pure_ (i := 3) (N := some 14) (v := ?_) (a' := ?_) #[true, true, true, true, false, false] rfl rfl (by kernel_rfl) (fun _ _ _ h => h) (Or.inl ⟨by rfl, ?_⟩) ?_ ?_; rotate_left; (focus (intro w'_; go_simp; with_reducible rfl)); rotate_left; (focus (simp only [Act.put, List.setIfInBounds_toArray, List.set_cons_zero, List.set_cons_succ]; rfl)))
  refine one_ (i := 4) (N := none) #[true, true, true, true, true, false] rfl rfl (by kernel_rfl) (by decide) (fun K hK => ?_)
  have hs0 : W5.cell? ⟨gs, 0, none⟩ = some (.int .i64 0) := (blk_cell H5.out.2.2.1 0).trans rfl
  have hs1 : W5.cell? ⟨gs, 1, none⟩ = some (.slice none 0 0) := (blk_cell H5.out.2.2.1 1).trans rfl
  have hs2 : W5.cell? ⟨gs, 2, none⟩ = some (.slice none 0 0) := (blk_cell H5.out.2.2.1 2).trans rfl
  have hs3 : W5.cell? ⟨gs, 3, none⟩ = some (.slice none 0 0) := (blk_cell H5.out.2.2.1 3).trans rfl
  have hf0 := blk_frozen H5.out.2.2.1 0
  have hf1 := blk_frozen H5.out.2.2.1 1
  have hf2 := blk_frozen H5.out.2.2.1 2
  have hf3 := blk_frozen H5.out.2.2.1 3
  refine skip_ (w1 := ?_) (by rfl) rfl ?_ ?_
  rotate_left
  · go_simp
    rfl
  have hgg := H5.out.2.2
  have hne : gs ≠ gt := fun e => by
    have h1 := HGT.out
    rw [e] at h1
    exact absurd h1 (Nat.lt_irrefl _)
  obtain ⟨W6, hW6⟩ : ∃ y, y = (((W5.setCell ⟨gs, 0, none⟩ (.int .i64 g.f0)).setCell ⟨gs, 1, none⟩ (.slice A1 g.f1.length c1)).setCell ⟨gs, 2, none⟩ (.slice A2 g.f2.length c2)).setCell ⟨gs, 3, none⟩ (.slice A3 g.f3.length c3) := ⟨_, rfl⟩
  rw [← hW6]
  have hs6 : W6.heap[gs]? = some (.cells #[.int .i64 g.f0, .slice A1 g.f1.length c1, .slice A2 g.f2.length c2, .slice A3 g.f3.length c3] 28 (0, 0)) := by
    rw [hW6]
    simpa using blk_set (blk_set (blk_set (blk_set hgg.1 0 (.int .i64 g.f0)) 1 (.slice A1 g.f1.length c1)) 2 (.slice A2 g.f2.length c2)) 3 (.slice A3 g.f3.length c3)
  have ht6 : W6.heap[gt]? = some (.cells #[.int .i64 g.f0, .slice A1 g.f1.length c1, .slice A2 g.f2.length c2, .slice A3 g.f3.length c3] 28 (0, 0)) := by
    rw [hW6]
    exact (Below.heap_setCell _ ⟨gs, 3, none⟩ _ gt (Ne.symm hne)).trans ((Below.heap_setCell _ ⟨gs, 2, none⟩ _ gt (Ne.symm hne)).trans ((Below.heap_setCell _ ⟨gs, 1, none⟩ _ gt (Ne.symm hne)).trans ((Below.heap_setCell _ ⟨gs, 0, none⟩ _ gt (Ne.symm hne)).trans hgg.2)))
  have hb6 : Below W.heap.size W W6 := by
    rw [hW6]
    exact (((H5.out.1.setCell (p := ⟨gs, 0, none⟩) HGS.out _).setCell (p := ⟨gs, 1, none⟩) HGS.out _).setCell (p := ⟨gs, 2, none⟩) HGS.out _).setCell (p := ⟨gs, 3, none⟩) HGS.out _
  have hc6 : CopyOf 6 W W6 (.agg #[.int .i64 g.f0, .slice A1 g.f1.length c1, .slice A2 g.f2.length c2, .slice A3 g.f3.length c3]) g := by
    rw [hW6]
    exact CopyOf.lower ((((H5.out.2.1.setG HGW.out.2).setG HGW.out.2).setG HGW.out.2).setG HGW.out.2) HGW.out.1
  refine hK.out _ _ ⟨(blk_cell ht6 0).trans rfl, (blk_cell ht6 1).trans rfl, (blk_cell ht6 2).trans rfl, (blk_cell ht6 3).trans rfl, trivial⟩ (fun hHeld => ?_)
  clear hK K hHeld2 hs0 hs1 hs2 hs3 hf0 hf1 hf2 hf3 hgg hne
  have HF := Aside0.mk (And.intro hs6 (And.intro hb6 hc6))
  clear hs6 ht6 hb6 hc6 hW6 H5
  (refine pure_ (i := 5) (N := some 3) (v := ?_) (a' := ?_) #[true, true, true, true, true, true] rfl rfl (by kernel_rfl) (fun _ _ _ h => h) (Or.inl ⟨by rfl, ?_⟩) ?_ ?_; rotate_left; (focus (intro w'_; go_simp; with_reducible rfl)); rotate_left; (focus (simp only [Act.put, List.setIfInBounds_toArray, List.set_cons_zero, List.set_cons_succ]; rfl)))
  refine done_ (by kernel_rfl) ?_
  clear hHeld
  go_wp2_with fail
  refine bodyPost_ret (results_geom2 (a := 2) (c := 3) (by rfl) _ _ (by rfl) (by simpa using HF.out.1)) rfl ?_
  rw [← HGE.out]
  exact ⟨_, rfl, HF.out.2.2, HF.out.2.1⟩
end Go.Proofs.YtiiolhnpnlmkjaaDoor.Tree
namespace Go.Proofs.YtiiolhnpnlmkjaaDoor.Tree
open Go.RowKit Go.Proofs.YtiiolhnpnlmkjaaDoor.PWkbPrints Go.Proofs.YtiiolhnpnlmkjaaDoorW.PrintWords Go.Proofs.YtiiolhnpnlmkjaaDoorW.PrintLast Go.Proofs.YtiiolhnpnlmkjaaDoorW.PrintMore
set_option linter.unusedVariables false
/-! ### plain -/
theorem parsed_big {b : List Int} {depth most : Int} (h : min (max most 0) 65536 < (b.length : Int)) : parsedR b depth most = .error (min (max most 0) 65536, 192) := by
  unfold parsedR
  rw [if_pos h]
theorem st_self (X : List Int) : St X 0 X := ⟨[], by simp⟩
theorem parsed_print (os : List Bool) (g : Ge) (depth most : Int) (hG : AllG g 1 0) (hbk : g.bulk ≤ 2097152) (hd : ∀ x ∈ nodes g 1 0, x.f1 ≤ min depth 256) (hm : ((geoB os g 0).length : Int) ≤ min (max most 0) 65536) :
    parsedR (geoB os g 0) depth most = .ok (g, ords os 0 (cntG g)) := by
  unfold parsedR
  rw [if_neg (by omega)]
  have h := (geom2 (c := geoB os g 0) (k := (geoB os g 0).length) (b := geoB os g 0) (List.take_length).symm (Nat.le_refl _) os (min depth 256) g.bulk g 1 0 0 0 257 (Nat.le_refl _) (by omega) hG hd (by omega) (.inl rfl) (st_self _) (Nat.zero_le _)).y (by omega)
  rw [h]
  dsimp only
  rw [if_neg (by omega)]
theorem parsed_deep (os : List Bool) (g : Ge) (depth most : Int) (hG : AllG g 1 0) (hbk : g.bulk ≤ 2097152) (hd : ∃ x ∈ nodes g 1 0, min depth 256 < x.f1) (hm : ((geoB os g 0).length : Int) ≤ min (max most 0) 65536) :
    ∃ q : Int, parsedR (geoB os g 0) depth most = .error (q, 191) ∧ 0 ≤ q ∧ q < (geoB os g 0).length := by
  unfold parsedR
  rw [if_neg (by omega)]
  obtain ⟨q, h, h1, h2⟩ := deep_of os (min depth 256) g.bulk g 1 0 0 0 257 (Nat.le_refl _) (by omega) hG hd (by omega) (by omega) (.inl rfl) (st_self _) (Nat.zero_le _)
  rw [h]
  exact ⟨q, rfl, by omega, by omega⟩
theorem parsed_low (os : List Bool) (g : Ge) (depth most : Int) (hG : AllG g 1 0) (hd : depth < 1) (hm : ((geoB os g 0).length : Int) ≤ min (max most 0) 65536) :
    parsedR (geoB os g 0) depth most = .error (0, 191) := by
  unfold parsedR
  rw [if_neg (by omega), geomR_eq]
  obtain ⟨X, hX, _⟩ := geoB_head os g 0
  obtain ⟨hkd, hfit, _⟩ := shaped_all hG.here.s
  have h : St (geoB os g 0) 0 (geoB os g 0) := st_self _
  have h1 : St (geoB os g 0) 0 (bitB (ordAt os 0) ++ P32 (u32 g.f0) (ordAt os 0)) := by
    have h2 := h
    conv at h2 => arg 3; rw [hX]
    exact h2.app.1
  rw [head_of h1 (Nat.zero_le _) hkd]
  dsimp only
  rw [home_fits hkd (.inl rfl), hfit, if_neg (by decide), if_pos (by omega)]
  rfl
/-! ### the depth -/
theorem hi_fold : ∀ (l : List It) (m : Int), (∀ x ∈ l, x.f1 ≤ l.foldl (fun m x => if m < x.f1 then x.f1 else m) m) ∧ m ≤ l.foldl (fun m x => if m < x.f1 then x.f1 else m) m ∧ (l.foldl (fun m x => if m < x.f1 then x.f1 else m) m = m ∨ ∃ x ∈ l, l.foldl (fun m x => if m < x.f1 then x.f1 else m) m = x.f1) := by
  intro l
  induction l with
  | nil => intro m; exact ⟨by simp, Int.le_refl _, .inl rfl⟩
  | cons x l ih =>
    intro m
    rw [List.foldl_cons]
    obtain ⟨h1, h2, h3⟩ := ih (if m < x.f1 then x.f1 else m)
    have hm : m ≤ (if m < x.f1 then x.f1 else m) ∧ x.f1 ≤ (if m < x.f1 then x.f1 else m) := by split <;> omega
    refine ⟨fun y hy => ?_, by omega, ?_⟩
    · rcases List.mem_cons.1 hy with rfl | hy
      · omega
      · exact h1 y hy
    · rcases h3 with h3 | ⟨y, hy, h3⟩
      · rw [h3]
        by_cases c : m < x.f1
        · rw [if_pos c]
          exact .inr ⟨x, List.mem_cons_self, rfl⟩
        · rw [if_neg c]
          exact .inl rfl
      · exact .inr ⟨y, List.mem_cons_of_mem _ hy, h3⟩
theorem depth_top (g : Ge) : (∀ x ∈ nodes g 1 0, x.f1 ≤ depthOf g) ∧ (∃ x ∈ nodes g 1 0, depthOf g = x.f1) ∧ 1 ≤ depthOf g := by
  obtain ⟨h1, h2, h3⟩ := hi_fold (nodes g 1 0) 0
  have h0 : (⟨g, 1, 0⟩ : It) ∈ nodes g 1 0 := by rw [nodes_eq]; exact List.mem_cons_self ..
  have h4 : (1 : Int) ≤ depthOf g := h1 _ h0
  refine ⟨h1, ?_, h4⟩
  rcases h3 with h3 | h3
  · have : depthOf g = 0 := h3
    omega
  · exact h3
/-! ### Parse by its answer -/
theorem parse_ok (A : Option Addr) (c : Nat) (b : List Int) (depth most : Int) (W : World) (g : Ge) (os : List Bool) (hC : kB.C W A b.length b) (hc : b.length ≤ c) (hl : b.length ≤ 1048576) (h : parsedR b depth most = .ok (g, os)) :
    Calls Tryd.prog 13 #[.slice A b.length c, .int .i64 depth, .int .i64 most] W fun e W' => ∃ A1 c1 A2 c2 A3 c3, e = .returned (.tuple #[.agg #[.int .i64 g.f0, .slice A1 g.f1.length c1, .slice A2 g.f2.length c2, .slice A3 g.f3.length c3], .nilIface]) ∧
      CopyOf 257 W W' (.agg #[.int .i64 g.f0, .slice A1 g.f1.length c1, .slice A2 g.f2.length c2, .slice A3 g.f3.length c3]) g ∧ Below W.heap.size W W' := by
  refine (parse_calls A c b depth most W hC hc hl).mono ?_
  rintro e W' ⟨u, ev, rfl, hb, -, hO⟩
  obtain ⟨rfl, hcp⟩ := hO _ h
  obtain ⟨A1, c1, A2, c2, A3, c3, rfl, _⟩ := hcp.isG
  exact ⟨A1, c1, A2, c2, A3, c3, rfl, hcp, hb⟩
theorem parse_err (A : Option Addr) (c : Nat) (b : List Int) (depth most : Int) (W : World) (x : Int × Int) (hC : kB.C W A b.length b) (hc : b.length ≤ c) (hl : b.length ≤ 1048576) (h : parsedR b depth most = .error x) :
    Calls Tryd.prog 13 #[.slice A b.length c, .int .i64 depth, .int .i64 most] W fun e W' => ∃ ge : Nat, e = .returned (.tuple #[.agg #[.int .i64 0, .slice none 0 0, .slice none 0 0, .slice none 0 0], .iface 109 (.pointer (some ⟨ge, 0, none⟩))]) ∧
      ErrV W' (.iface 109 (.pointer (some ⟨ge, 0, none⟩))) (some x) ∧ Below W.heap.size W W' := by
  refine (parse_calls A c b depth most W hC hc hl).mono ?_
  rintro e W' ⟨u, ev, rfl, hb, hE, -⟩
  obtain ⟨rfl, hev⟩ := hE _ h
  obtain ⟨ge, rfl⟩ := ErrV.iface hev
  exact ⟨ge, rfl, hev, hb⟩
end Go.Proofs.YtiiolhnpnlmkjaaDoor.Tree
namespace Go.Proofs.YtiiolhnpnlmkjaaDoor.Tree
open Go.RowKit Go.Proofs.YtiiolhnpnlmkjaaDoorW.PrintWords Go.Proofs.YtiiolhnpnlmkjaaDoorW.PrintLast Go.Proofs.YtiiolhnpnlmkjaaDoorW.PrintMore
set_option linter.unusedVariables false
theorem ge_ext {a b : Ge} (h0 : a.f0 = b.f0) (h1 : a.f1 = b.f1) (h2 : a.f2 = b.f2) (h3 : a.f3 = b.f3) : a = b := by
  cases a; cases b
  dsimp only at h0 h1 h2 h3
  subst h0 h1 h2 h3
  rfl
open Classical in
/-- The same tree? -/
noncomputable def eqG (a b : Ge) : Bool := if a = b then true else false
theorem eqG_true {a b : Ge} (h : a = b) : eqG a b = true := by unfold eqG; exact if_pos h
theorem eqG_false {a b : Ge} (h : a ≠ b) : eqG a b = false := by unfold eqG; exact if_neg h
theorem eqG_iff (a b : Ge) : eqG a b = true ↔ a = b := by
  refine ⟨fun h => ?_, eqG_true⟩
  by_cases e : a = b
  · exact e
  · rw [eqG_false e] at h
    cases h
end Go.Proofs.YtiiolhnpnlmkjaaDoor.Tree
namespace Go.Proofs.YtiiolhnpnlmkjaaDoor.Tree
open Go.RowKit Go.Proofs.YtiiolhnpnlmkjaaDoorW.PrintWords Go.Proofs.YtiiolhnpnlmkjaaDoorW.PrintLast Go.Proofs.YtiiolhnpnlmkjaaDoorW.PrintMore
set_option linter.unusedVariables false
set_option linter.unusedSimpArgs false
deriving instance DecidableEq for Pt
def eqL (a b : List Pt) : Bool := decide (a = b)
theorem eqL_true {a b : List Pt} (h : a = b) : eqL a b = true := decide_eq_true h
theorem eqL_false {a b : List Pt} (h : a ≠ b) : eqL a b = false := decide_eq_false h
theorem eqL_iff (a b : List Pt) : eqL a b = true ↔ a = b := decide_eq_true_iff
set_option maxRecDepth 100000 in
set_option maxHeartbeats 4000000 in
theorem sameLine_calls (A B : Option Addr) (c d : Nat) (a b : List Pt) (w : World) (ha : Kd.C kPt w A a.length a) (hb : Kd.C kPt w B b.length b) (hl : a.length ≤ 1073741824) :
    Calls Tryd.prog 50 #[.slice A a.length c, .slice B b.length d] w fun e w' => e = .returned (.bool (eqL a b)) ∧ ∃ n, w' = w.drewN n := by
  have hu := Tryd.underlying82
  have HA := Aside0.mk ha
  have HB := Aside0.mk hb
  clear ha hb
  by_cases hn : a.length = b.length
  · have q1 : ((a.length : Int) == (b.length : Int)) = true := beq_iff_eq.mpr (by omega)
    have q2 : ((a.length : Int) != (b.length : Int)) = false := bne_eq_false_iff_eq.mpr (by omega)
    have HN := Aside0.mk hn
    clear hn
    go_enter Tryd.func50, Tryd.ntmps50
    go_wp2_with fail
    go_loopg [13] a.length (fun kq i wr => ∃ k : Nat, k + kq = a.length ∧ i = .int .i64 (k : Int) ∧ Aside0 (a.take k = b.take k) ∧ ∃ m, wr = w.drewN m)
    case atStart => exact ⟨0, by omega, rfl, ⟨rfl⟩, 0, rfl⟩
    case round =>
      obtain ⟨k, hk, rfl, HT, m, rfl⟩ := hrel
      cases gk with
      | zero =>
        have hlt : ¬ ((k : Int) < (a.length : Int)) := by omega
        obtain rfl : k = a.length := by omega
        go_wp2_with fail
        go_ret
        refine ⟨ret_b ?_, m, rfl⟩
        have h := HT.out
        rw [List.take_length, HN.out, List.take_length] at h
        rw [eqL_true h]
      | succ kq =>
        have hlt : (k : Int) < (a.length : Int) := by omega
        have hlt1 : k < a.length := by omega
        have hltb' : k < b.length := by have := HN.out; omega
        have hltb : (k : Int) < (b.length : Int) := by omega
        obtain ⟨x1, e1, p0, p1⟩ := at_Pt HA.out (k : Int) (by omega) (by omega)
        obtain ⟨x2, e2, r0, r1⟩ := at_Pt HB.out (k : Int) (by omega) (by omega)
        subst e1 e2
        rw [rd_Pt_at _ _ hlt1, Int.toNat_natCast] at p0 p1
        rw [rd_Pt_at _ _ hltb', Int.toNat_natCast] at r0 r1
        obtain ⟨u, hu1⟩ : ∃ u, u = a[k] := ⟨_, rfl⟩
        obtain ⟨v, hv1⟩ : ∃ v, v = b[k] := ⟨_, rfl⟩
        rw [← hu1] at p0 p1
        rw [← hv1] at r0 r1
        have HU := Aside0.mk hu1
        have HV := Aside0.mk hv1
        clear hu1 hv1
        obtain ⟨u0, u1⟩ := u
        obtain ⟨v0, v1⟩ := v
        dsimp only at p0 p1 r0 r1
        by_cases h0 : u0 = v0
        · have s0 : (u0 == v0) = true := beq_iff_eq.mpr h0
          by_cases h1 : u1 = v1
          · have s1 : (u1 == v1) = true := beq_iff_eq.mpr h1
            have HE := Aside0.mk (show a.take (k + 1) = b.take (k + 1) by
              rw [List.take_succ_eq_append_getElem hlt1, List.take_succ_eq_append_getElem hltb', HT.out, ← HU.out, ← HV.out, h0, h1])
            clear h0 h1
            go_wp2_with fail
            go_quiet (fail)
            go_wp2_with fail
            go_roundg kq
            case measure => omega
            case rel => exact ⟨k + 1, by omega, by go_num, HE, _, rfl⟩
          · have s1 : (u1 == v1) = false := beq_eq_false_iff_ne.mpr h1
            have HE := Aside0.mk (show a ≠ b by rintro rfl; have := HU.out.trans HV.out.symm; injection this; contradiction)
            clear h0 h1
            go_wp2_with fail
            go_quiet (fail)
            go_wp2_with fail
            go_ret
            exact ⟨ret_b (eqL_false HE.out).symm, _, World.drewN_drewN _ _ _⟩
        · have s0 : (u0 == v0) = false := beq_eq_false_iff_ne.mpr h0
          have HE := Aside0.mk (show a ≠ b by rintro rfl; have := HU.out.trans HV.out.symm; injection this; contradiction)
          clear h0
          go_wp2_with fail
          go_quiet (fail)
          go_wp2_with fail
          go_ret
          exact ⟨ret_b (eqL_false HE.out).symm, _, World.drewN_drewN _ _ _⟩
  · have q1 : ((a.length : Int) == (b.length : Int)) = false := beq_eq_false_iff_ne.mpr (by omega)
    have q2 : ((a.length : Int) != (b.length : Int)) = true := bne_iff_ne.mpr (by omega)
    have HE := Aside0.mk (show a ≠ b by rintro rfl; exact hn rfl)
    clear hn
    go_enter Tryd.func50, Tryd.ntmps50
    go_wp2_with fail
    go_ret
    exact ⟨ret_b (eqL_false HE.out).symm, 0, rfl⟩
end Go.Proofs.YtiiolhnpnlmkjaaDoor.Tree
namespace Go.Proofs.YtiiolhnpnlmkjaaDoor.Tree
open Go.RowKit Go.Proofs.YtiiolhnpnlmkjaaDoorW.PrintWords Go.Proofs.YtiiolhnpnlmkjaaDoorW.PrintLast Go.Proofs.YtiiolhnpnlmkjaaDoorW.PrintMore
set_option linter.unusedVariables false
set_option linter.unusedSimpArgs false
set_option maxRecDepth 100000 in
set_option maxHeartbeats 8000000 in
theorem equal_calls (n : Nat) : ∀ (v u : Value) (a b : Ge) (w : World), IsG w v a → IsG w u b → a.bulk ≤ n → n ≤ 1073741824 → b.bulk ≤ 1073741824 →
    Calls Tryd.prog 33 #[v, u] w fun e w' => e = .returned (.bool (eqG a b)) ∧ Below w.heap.size w w' := by
  induction n with
  | zero => intro v u a b w _ _ h; have := a.bulk_eq; omega
  | succ n ih =>
  rintro v u a b w ⟨A1, c1, A2, c2, A3, c3, rfl, l1, h1, l2, h2, l3, h3⟩ ⟨D1, d1, D2, d2, D3, d3, rfl, m1, k1, m2, k2, m3, k3⟩ hbk hn hbb
  have hbq := a.bulk_eq
  have hbq' := b.bulk_eq
  have hb1 : a.f1.length ≤ 1073741824 := by omega
  have hb2 : a.f2.length ≤ 1073741824 := by omega
  have hb3 : a.f3.length ≤ 1073741824 := by have := bulks_len a.f3; omega
  have hd1 : b.f1.length ≤ 1073741824 := by omega
  have hd2 : b.f2.length ≤ 1073741824 := by omega
  have hd3 : b.f3.length ≤ 1073741824 := by have := bulks_len b.f3; omega
  have H1 := Aside0.mk h1
  have H2 := Aside0.mk h2
  have H3 := Aside0.mk h3
  have K1 := Aside0.mk k1
  have K2 := Aside0.mk k2
  have K3 := Aside0.mk k3
  have U := Aside0.mk (upTo_le a.f2)
  have HBQ := Aside0.mk (And.intro hbk (And.intro hbq (And.intro hbb hbq')))
  have IH := Aside0.mk ih
  have HN := Aside0.mk hn
  clear h1 h2 h3 k1 k2 k3 ih hbk hbq hbb hbq' l1 l2 l3 m1 m2 m3 hn
  have hmx : Tryd.prog.follows .mixedOrders = true := by kernel_rfl
  have hun := Tryd.underlying28
  go_enter Tryd.func33, Tryd.ntmps33
  have HB0 := Aside0.mk (Below.refl w.heap.size w)
  by_cases q0 : a.f0 = b.f0
  · by_cases q1 : a.f1 = b.f1
    · by_cases q2 : a.f2.length = b.f2.length
      · by_cases q3 : a.f3.length = b.f3.length
        · have Q0 := Aside0.mk q0
          have Q1 := Aside0.mk q1
          have Q2 := Aside0.mk q2
          have Q3 := Aside0.mk q3
          have t0 : (a.f0 == b.f0) = true := beq_iff_eq.mpr q0
          have t0' : (a.f0 != b.f0) = false := bne_eq_false_iff_eq.mpr q0
          have t2 : ((a.f2.length : Int) == (b.f2.length : Int)) = true := beq_iff_eq.mpr (by omega)
          have t2' : ((a.f2.length : Int) != (b.f2.length : Int)) = false := bne_eq_false_iff_eq.mpr (by omega)
          have t3 : ((a.f3.length : Int) == (b.f3.length : Int)) = true := beq_iff_eq.mpr (by omega)
          have t3' : ((a.f3.length : Int) != (b.f3.length : Int)) = false := bne_eq_false_iff_eq.mpr (by omega)
          clear q0 q1 q2 q3
          go_wp2_with fail
          obtain ⟨ga, hga⟩ : ∃ x, x = w.heap.size := ⟨_, rfl⟩
          obtain ⟨gb, hgb⟩ : ∃ x, x = w.heap.size + 1 := ⟨_, rfl⟩
          obtain ⟨W0, hW0⟩ : ∃ x, x = ((w.alloc (.cells #[.int .i64 a.f0, .slice A1 a.f1.length c1, .slice A2 a.f2.length c2, .slice A3 a.f3.length c3] 28)).alloc (.cells #[.int .i64 b.f0, .slice D1 b.f1.length d1, .slice D2 b.f2.length d2, .slice D3 b.f3.length d3] 28)) := ⟨_, rfl⟩
          rw [← hW0, ← hgb, ← hga]
          have BA := Aside0.mk (show W0.heap[ga]? = some (.cells #[.int .i64 a.f0, .slice A1 a.f1.length c1, .slice A2 a.f2.length c2, .slice A3 a.f3.length c3] 28 (0, 0)) by rw [hW0, hga]; exact blk_alloc (World.alloc_heap_new _ _) _)
          have BB := Aside0.mk (show W0.heap[gb]? = some (.cells #[.int .i64 b.f0, .slice D1 b.f1.length d1, .slice D2 b.f2.length d2, .slice D3 b.f3.length d3] 28 (0, 0)) by
            rw [hW0, hgb]
            have h := World.alloc_heap_new (w.alloc (.cells #[.int .i64 a.f0, .slice A1 a.f1.length c1, .slice A2 a.f2.length c2, .slice A3 a.f3.length c3] 28)) (.cells #[.int .i64 b.f0, .slice D1 b.f1.length d1, .slice D2 b.f2.length d2, .slice D3 b.f3.length d3] 28)
            simpa using h)
          have HB := Aside0.mk (show Below w.heap.size w W0 by rw [hW0]; exact below_alloc (below_alloc (Below.refl _ _) _) _)
          have HGA := Aside0.mk hga
          clear hW0 hga hgb HB0
          have z0 : W0.cell? ⟨ga, 0, none⟩ = some (.int .i64 a.f0) := (blk_cell BA.out 0).trans rfl
          have z1 : W0.cell? ⟨ga, 1, none⟩ = some (.slice A1 a.f1.length c1) := (blk_cell BA.out 1).trans rfl
          have z2 : W0.cell? ⟨ga, 2, none⟩ = some (.slice A2 a.f2.length c2) := (blk_cell BA.out 2).trans rfl
          have z3 : W0.cell? ⟨ga, 3, none⟩ = some (.slice A3 a.f3.length c3) := (blk_cell BA.out 3).trans rfl
          have y0 : W0.cell? ⟨gb, 0, none⟩ = some (.int .i64 b.f0) := (blk_cell BB.out 0).trans rfl
          have y1 : W0.cell? ⟨gb, 1, none⟩ = some (.slice D1 b.f1.length d1) := (blk_cell BB.out 1).trans rfl
          have y2 : W0.cell? ⟨gb, 2, none⟩ = some (.slice D2 b.f2.length d2) := (blk_cell BB.out 2).trans rfl
          have y3 : W0.cell? ⟨gb, 3, none⟩ = some (.slice D3 b.f3.length d3) := (blk_cell BB.out 3).trans rfl
          refine (sameLine_calls A1 D1 c1 d1 a.f1 b.f1 W0 (Kd.C_below H1.out HB.out) (Kd.C_below K1.out HB.out) hb1).mono ?_
          rintro e w' ⟨rfl, nd, rfl⟩
          rw [eqL_true Q1.out]
          have YQ := Aside0.mk (And.intro y2 y3)
          have HL2 := Aside0.mk (show (a.f2.length : Int) = (b.f2.length : Int) by have := Q2.out; omega)
          go_wp2_with fail
          go_loopg [41] a.f2.length (fun kq i wr => ∃ j : Nat, j + kq = a.f2.length ∧ i = .int .i64 (j : Int) ∧ Aside0 (a.f2.take j = b.f2.take j) ∧ ∃ m, wr = W0.drewN m)
          case atStart => exact ⟨0, by omega, rfl, ⟨rfl⟩, nd, rfl⟩
          case round =>
            obtain ⟨j, hj, rfl, HT, m, rfl⟩ := hrel
            cases gk with
            | zero =>
              have hlt : ¬ ((j : Int) < (a.f2.length : Int)) := by omega
              obtain rfl : j = a.f2.length := by omega
              have HF2 := Aside0.mk (show a.f2 = b.f2 by
                have h := HT.out
                rw [List.take_length, Q2.out, List.take_length] at h
                exact h)
              clear HT hj
              go_wp2_with fail
              have Z3 := Aside0.mk z3
              have Y3 := Aside0.mk y3
              go_loopg [60] a.f3.length (fun kq i wr => ∃ j : Nat, j + kq = a.f3.length ∧ i = .int .i64 (j : Int) ∧ Aside0 (a.f3.take j = b.f3.take j) ∧ Aside0 (Below W0.heap.size W0 wr))
              case atStart => exact ⟨0, by omega, rfl, ⟨rfl⟩, ⟨by repeat (first | exact Below.refl _ _ | apply pw_below_drewN)⟩⟩
              case round =>
                obtain ⟨j, hj, rfl, HT, HW⟩ := hrel
                have z3' := cell_below HW.out Z3.out
                have y3' := cell_below HW.out Y3.out
                cases gk with
                | zero =>
                  have hlt : ¬ ((j : Int) < (a.f3.length : Int)) := by omega
                  obtain rfl : j = a.f3.length := by omega
                  have HE := Aside0.mk (show a = b by
                    have h := HT.out
                    rw [List.take_length, Q3.out, List.take_length] at h
                    exact ge_ext Q0.out Q1.out HF2.out h)
                  go_wp2_with fail
                  go_ret
                  exact ⟨ret_b (eqG_true HE.out).symm, below_step HB.out HW.out⟩
                | succ kq =>
                  have hlt : j < a.f3.length := by omega
                  have hltb : j < b.f3.length := by have := Q3.out; omega
                  obtain ⟨q3, B1, b1, B2, b2, B3, b3, ea, u0, u1, u2, u3, n1, o1, n2, o2, n3, o3⟩ := at_Ge H3.out j (by omega) (by omega)
                  obtain ⟨a3, F1, f1, F2, f2, F3, f3, eb, t0, t1, t2, t3, m1, p1, m2, p2, m3, p3⟩ := at_Ge K3.out j (by omega) (by omega)
                  subst ea eb
                  rw [rd_Ge_at _ _ hlt] at u0 u1 u2 u3 o1 o2 o3 n1 n2 n3
                  rw [rd_Ge_at _ _ hltb] at t0 t1 t2 t3 p1 p2 p3 m1 m2 m3
                  rw [Int.toNat_natCast] at u0 u1 u2 u3 t0 t1 t2 t3
                  obtain ⟨ka, hka⟩ : ∃ k, k = a.f3[j] := ⟨_, rfl⟩
                  obtain ⟨kb, hkb⟩ : ∃ k, k = b.f3[j] := ⟨_, rfl⟩
                  rw [← hka] at u0 u1 u2 u3 o1 o2 o3 n1 n2 n3
                  rw [← hkb] at t0 t1 t2 t3 p1 p2 p3 m1 m2 m3
                  have HIA := Aside0.mk (show IsG w (.agg #[.int .i64 ka.f0, .slice B1 ka.f1.length b1, .slice B2 ka.f2.length b2, .slice B3 ka.f3.length b3]) ka from ⟨B1, b1, B2, b2, B3, b3, rfl, n1, o1, n2, o2, n3, o3⟩)
                  have HIB := Aside0.mk (show IsG w (.agg #[.int .i64 kb.f0, .slice F1 kb.f1.length f1, .slice F2 kb.f2.length f2, .slice F3 kb.f3.length f3]) kb from ⟨F1, f1, F2, f2, F3, f3, rfl, m1, p1, m2, p2, m3, p3⟩)
                  have U0 := Aside0.mk (cell_below HB.out u0)
                  have U1 := Aside0.mk (cell_below HB.out u1)
                  have U2 := Aside0.mk (cell_below HB.out u2)
                  have U3 := Aside0.mk (cell_below HB.out u3)
                  have V0 := Aside0.mk (cell_below HB.out t0)
                  have V1 := Aside0.mk (cell_below HB.out t1)
                  have V2 := Aside0.mk (cell_below HB.out t2)
                  have V3 := Aside0.mk (cell_below HB.out t3)
                  have hpa : ka.bulk ≤ n := by rw [hka]; have := bulks_mem (List.getElem_mem hlt); have := HBQ.out.1; have := HBQ.out.2.1; omega
                  have hpb : kb.bulk ≤ 1073741824 := by rw [hkb]; have := bulks_mem (List.getElem_mem hltb); have := HBQ.out.2.2.1; have := HBQ.out.2.2.2; omega
                  have HTa := Aside0.mk (show a.f3.take (j + 1) = a.f3.take j ++ [ka] by rw [List.take_succ_eq_append_getElem hlt, hka])
                  have HTb := Aside0.mk (show b.f3.take (j + 1) = b.f3.take j ++ [kb] by rw [List.take_succ_eq_append_getElem hltb, hkb])
                  have HPA := Aside0.mk (And.intro hpa hpb)
                  clear u0 u1 u2 u3 t0 t1 t2 t3 n1 o1 n2 o2 n3 o3 m1 p1 m2 p2 m3 p3 hka hkb hpa hpb
                  have i0 : (0 : Int) ≤ (j : Int) := by omega
                  have i1 : (j : Int) < (a.f3.length : Int) := by omega
                  have i2 : (j : Int) < (b.f3.length : Int) := by have := Q3.out; omega
                  go_wp2_with fail
                  refine start_ (n := 12) (S := fun w' => w'.cell? ⟨ga, 3, none⟩ = some (.slice (some q3) a.f3.length c3) ∧ w'.cell? ⟨gb, 3, none⟩ = some (.slice (some a3) b.f3.length d3) ∧ w'.cell? (q3.add (j * 4)) = some (.int .i64 ka.f0) ∧ w'.cell? ⟨(q3.add (j * 4)).block, (q3.add (j * 4)).off + 1, none⟩ = some (.slice B1 ka.f1.length b1) ∧ w'.cell? ⟨(q3.add (j * 4)).block, (q3.add (j * 4)).off + 2, none⟩ = some (.slice B2 ka.f2.length b2) ∧ w'.cell? ⟨(q3.add (j * 4)).block, (q3.add (j * 4)).off + 3, none⟩ = some (.slice B3 ka.f3.length b3) ∧ w'.cell? (a3.add (j * 4)) = some (.int .i64 kb.f0) ∧ w'.cell? ⟨(a3.add (j * 4)).block, (a3.add (j * 4)).off + 1, none⟩ = some (.slice F1 kb.f1.length f1) ∧ w'.cell? ⟨(a3.add (j * 4)).block, (a3.add (j * 4)).off + 2, none⟩ = some (.slice F2 kb.f2.length f2) ∧ w'.cell? ⟨(a3.add (j * 4)).block, (a3.add (j * 4)).off + 3, none⟩ = some (.slice F3 kb.f3.length f3) ∧ True) (ds := []) #[false, false, false, false, false, false, false, false, false, false, false, false] hmx rfl rfl ⟨cell_below (below_drew HW.out) Z3.out, cell_below (below_drew HW.out) Y3.out, cell_below (below_drew HW.out) U0.out, cell_below (below_drew HW.out) U1.out, cell_below (below_drew HW.out) U2.out, cell_below (below_drew HW.out) U3.out, cell_below (below_drew HW.out) V0.out, cell_below (below_drew HW.out) V1.out, cell_below (below_drew HW.out) V2.out, cell_below (below_drew HW.out) V3.out, trivial⟩ (fun hHeld => ?_)
                  have HWd := Aside0.mk (below_drew HW.out)
                  clear z3' y3'
                  generalize wr.drew = Wd at HWd hHeld ⊢
                  (refine pure_ (i := 0) (N := some 63) (v := ?_) (a' := ?_) #[true, false, false, false, false, false, false, false, false, false, false, false] rfl rfl (by kernel_rfl) (fun _ _ _ h => h) (Or.inl ⟨by rfl, ?_⟩) ?_ ?_; rotate_left; (focus (intro w'_; go_simp; with_reducible rfl)); rotate_left; (focus (simp only [Act.put, List.setIfInBounds_toArray, List.set_cons_zero, List.set_cons_succ]; rfl)))
                  (refine pure_ (i := 2) (N := some 65) (v := ?_) (a' := ?_) #[true, false, true, false, false, false, false, false, false, false, false, false] rfl rfl (by kernel_rfl) (fun _ _ _ h => h) (Or.inl ⟨by rfl, ?_⟩) ?_ ?_; rotate_left; (focus (intro w'_; go_simp; with_reducible rfl)); rotate_left; (focus (simp only [Act.put, List.setIfInBounds_toArray, List.set_cons_zero, List.set_cons_succ]; rfl)))
                  (refine pure_ (i := 5) (N := some 68) (v := ?_) (a' := ?_) #[true, false, true, false, false, true, false, false, false, false, false, false] rfl rfl (by kernel_rfl) (fun _ _ _ h => h) (Or.inl ⟨by rfl, ?_⟩) ?_ ?_; rotate_left; (focus (intro w'_; go_simp; with_reducible rfl)); rotate_left; (focus (simp only [Act.put, List.setIfInBounds_toArray, List.set_cons_zero, List.set_cons_succ]; rfl)))
                  (refine pure_ (i := 7) (N := some 70) (v := ?_) (a' := ?_) #[true, false, true, false, false, true, false, true, false, false, false, false] rfl rfl (by kernel_rfl) (fun _ _ _ h => h) (Or.inl ⟨by rfl, ?_⟩) ?_ ?_; rotate_left; (focus (intro w'_; go_simp; with_reducible rfl)); rotate_left; (focus (simp only [Act.put, List.setIfInBounds_toArray, List.set_cons_zero, List.set_cons_succ]; rfl)))
                  (refine take_ (i := 1) (N := some 64) (v := ?_) (a' := ?_) #[true, true, true, false, false, true, false, true, false, false, false, false] rfl rfl (by kernel_rfl) (fun _ _ _ h => h) (Or.inl ⟨by rfl, ?_⟩) hHeld ?_ ?_; rotate_left; (focus (intro w'_ hs_; (repeat obtain ⟨_, hs_⟩ := hs_); go_simp; with_reducible rfl)); rotate_left; (focus (simp only [Act.put, List.setIfInBounds_toArray, List.set_cons_zero, List.set_cons_succ]; rfl)))
                  (refine take_ (i := 6) (N := some 69) (v := ?_) (a' := ?_) #[true, true, true, false, false, true, true, true, false, false, false, false] rfl rfl (by kernel_rfl) (fun _ _ _ h => h) (Or.inl ⟨by rfl, ?_⟩) hHeld ?_ ?_; rotate_left; (focus (intro w'_ hs_; (repeat obtain ⟨_, hs_⟩ := hs_); go_simp; with_reducible rfl)); rotate_left; (focus (simp only [Act.put, List.setIfInBounds_toArray, List.set_cons_zero, List.set_cons_succ]; rfl)))
                  (refine pure_ (i := 3) (N := some 66) (v := ?_) (a' := ?_) #[true, true, true, true, false, true, true, true, false, false, false, false] rfl rfl (by kernel_rfl) (fun _ _ _ h => h) (Or.inl ⟨by rfl, ?_⟩) ?_ ?_; rotate_left; (focus (intro w'_; go_simp; with_reducible rfl)); rotate_left; (focus (simp only [Act.put, List.setIfInBounds_toArray, List.set_cons_zero, List.set_cons_succ]; rfl)))
                  (refine pure_ (i := 8) (N := some 71) (v := ?_) (a' := ?_) #[true, true, true, true, false, true, true, true, true, false, false, false] rfl rfl (by kernel_rfl) (fun _ _ _ h => h) (Or.inl ⟨by rfl, ?_⟩) ?_ ?_; rotate_left; (focus (intro w'_; go_simp; with_reducible rfl)); rotate_left; (focus (simp only [Act.put, List.setIfInBounds_toArray, List.set_cons_zero, List.set_cons_succ]; rfl)))
                  (refine take_ (i := 4) (N := some 67) (v := ?_) (a' := ?_) #[true, true, true, true, true, true, true, true, true, false, false, false] rfl rfl (by kernel_rfl) (fun _ _ _ h => h) (Or.inl ⟨by rfl, ?_⟩) hHeld ?_ ?_; rotate_left; (focus (intro w'_ hs_; (repeat obtain ⟨_, hs_⟩ := hs_); go_simp; with_reducible rfl)); rotate_left; (focus (simp only [Act.put, List.setIfInBounds_toArray, List.set_cons_zero, List.set_cons_succ]; rfl)))
                  (refine take_ (i := 9) (N := some 72) (v := ?_) (a' := ?_) #[true, true, true, true, true, true, true, true, true, true, false, false] rfl rfl (by kernel_rfl) (fun _ _ _ h => h) (Or.inl ⟨by rfl, ?_⟩) hHeld ?_ ?_; rotate_left; (focus (intro w'_ hs_; (repeat obtain ⟨_, hs_⟩ := hs_); go_simp; with_reducible rfl)); rotate_left; (focus (simp only [Act.put, List.setIfInBounds_toArray, List.set_cons_zero, List.set_cons_succ]; rfl)))
                  refine one_ (i := 10) (N := some 73) #[true, true, true, true, true, true, true, true, true, true, true, false] rfl rfl (by kernel_rfl) (by decide) (fun K hK => ?_)
                  refine goes_ Tryd.func33 (by kernel_rfl) rfl #[.agg #[.int .i64 ka.f0, .slice B1 ka.f1.length b1, .slice B2 ka.f2.length b2, .slice B3 ka.f3.length b3], .agg #[.int .i64 kb.f0, .slice F1 kb.f1.length f1, .slice F2 kb.f2.length f2, .slice F3 kb.f3.length f3]] (by rfl) rfl rfl (by (try simp only [List.map_toArray, List.map_cons, List.map_nil]); first | done | rfl) ?_
                  have hbw := below_step HB.out HWd.out
                  refine (IH.out _ _ ka kb Wd (HIA.out.below hbw) (HIB.out.below hbw) HPA.out.1 (by have := HN.out; omega) HPA.out.2).mono ?_
                  rintro e X1 ⟨rfl, hb1⟩
                  have hw1 := below_step HWd.out hb1
                  refine ⟨_, rfl, hK.out _ _ ⟨cell_below hw1 Z3.out, cell_below hw1 Y3.out, cell_below hw1 U0.out, cell_below hw1 U1.out, cell_below hw1 U2.out, cell_below hw1 U3.out, cell_below hw1 V0.out, cell_below hw1 V1.out, cell_below hw1 V2.out, cell_below hw1 V3.out, trivial⟩ (fun hHeld2 => ?_)⟩
                  clear hK K
                  (refine norm_ (a' := ?_) ?_ ?_; rotate_left; focus (show Act.put _ (some 73) _ = _; simp only [Act.put, List.setIfInBounds_toArray, List.set_cons_zero, List.set_cons_succ]; rfl))
                  cases hq : eqG ka kb with
                  | true =>
                    (refine pure_ (i := 11) (N := some 74) (v := ?_) (a' := ?_) #[true, true, true, true, true, true, true, true, true, true, true, true] rfl rfl (by kernel_rfl) (fun _ _ _ h => h) (Or.inl ⟨by rfl, ?_⟩) ?_ ?_; rotate_left; (focus (intro w'_; go_simp; with_reducible rfl)); rotate_left; (focus (simp only [Act.put, List.setIfInBounds_toArray, List.set_cons_zero, List.set_cons_succ]; rfl)))
                    refine done_ (by kernel_rfl) ?_
                    have HT2 := Aside0.mk (show a.f3.take (j + 1) = b.f3.take (j + 1) by rw [HTa.out, HTb.out, HT.out, (eqG_iff _ _).1 hq])
                    have HW1 := Aside0.mk hw1
                    clear hw1 hb1 hbw hHeld hHeld2 hq
                    go_wp2_with fail
                    go_roundg kq
                    case measure => omega
                    case rel => exact ⟨j + 1, by omega, by go_num, HT2, HW1⟩
                  | false =>
                    (refine pure_ (i := 11) (N := some 74) (v := ?_) (a' := ?_) #[true, true, true, true, true, true, true, true, true, true, true, true] rfl rfl (by kernel_rfl) (fun _ _ _ h => h) (Or.inl ⟨by rfl, ?_⟩) ?_ ?_; rotate_left; (focus (intro w'_; go_simp; with_reducible rfl)); rotate_left; (focus (simp only [Act.put, List.setIfInBounds_toArray, List.set_cons_zero, List.set_cons_succ]; rfl)))
                    refine done_ (by kernel_rfl) ?_
                    have HE := Aside0.mk (show a ≠ b from by
                      intro hab
                      have h := HTa.out.symm.trans ((by rw [hab] : a.f3.take (j + 1) = b.f3.take (j + 1)).trans HTb.out)
                      have h2 := List.append_inj_right' h rfl
                      injection h2 with h2
                      rw [eqG_true h2] at hq
                      cases hq)
                    have HW1 := Aside0.mk hw1
                    clear hw1 hb1 hbw hHeld hHeld2 hq
                    go_wp2_with fail
                    go_ret
                    exact ⟨ret_b (eqG_false HE.out).symm, below_step HB.out HW1.out⟩
            | succ kq =>
              have hlt : j < a.f2.length := by omega
              have hltb : j < b.f2.length := by have := Q2.out; omega
              obtain ⟨a2, A0, c0, ea, hx, hl, hc⟩ := at_L2 H2.out j (by omega) (by omega)
              obtain ⟨a4, B0, b0, eb, hy, hm, hd⟩ := at_L2 K2.out j (by omega) (by omega)
              subst ea eb
              rw [rd_L2_at _ _ hlt, Int.toNat_natCast] at hx
              rw [rd_L2_at _ _ hlt] at hc
              rw [rd_L2_at _ _ hltb, Int.toNat_natCast] at hy
              rw [rd_L2_at _ _ hltb] at hd
              have hlen : (a.f2[j]).length ≤ 1073741824 := by
                have h1 := upTo_le a.f2 (j + 1)
                rw [upTo_succ a.f2 j hlt] at h1
                have := HBQ.out.1
                have := HBQ.out.2.1
                have := HN.out
                omega
              have HCR := Aside0.mk (fun W (hb : Below w.heap.size w W) => sameLine_calls A0 B0 c0 b0 a.f2[j] b.f2[j] W (Kd.C_below hc hb) (Kd.C_below hd hb) hlen)
              have hx' := cell_below HB.out hx
              have hy' := cell_below HB.out hy
              have i0 : (0 : Int) ≤ (j : Int) := by omega
              have hj1 : (j : Int) < (a.f2.length : Int) := by omega
              have hj2 : (j : Int) < (b.f2.length : Int) := by have := Q2.out; omega
              obtain ⟨LA, hLA⟩ : ∃ k, k = a.f2[j] := ⟨_, rfl⟩
              obtain ⟨LB, hLB⟩ : ∃ k, k = b.f2[j] := ⟨_, rfl⟩
              rw [← hLA, ← hLB] at HCR
              rw [← hLA] at hx'
              rw [← hLB] at hy'
              have HTa := Aside0.mk (show a.f2.take (j + 1) = a.f2.take j ++ [LA] by rw [List.take_succ_eq_append_getElem hlt, hLA])
              have HTb := Aside0.mk (show b.f2.take (j + 1) = b.f2.take j ++ [LB] by rw [List.take_succ_eq_append_getElem hltb, hLB])
              clear hx hy hc hd hl hm hLA hLB hlen
              cases hq : eqL LA LB with
              | true =>
                rw [hq] at HCR
                have HQ := Aside0.mk ((eqL_iff _ _).1 hq)
                clear hq
                go_wp2_with fail
                go_quiet ((refine (HCR.out _ (by repeat (first | exact HB.out | apply pw_below_drewN))).mono ?_; rintro e w' ⟨rfl, nd, rfl⟩; exact ⟨rfl, _, (World.drewN_drewN _ _ _).trans (congrArg W0.drewN (Nat.add_assoc _ _ _))⟩))
                go_wp2_with fail
                go_roundg kq
                case measure => omega
                case rel => exact ⟨j + 1, by omega, by go_num, ⟨by rw [HTa.out, HTb.out, HT.out, HQ.out]⟩, _, rfl⟩
              | false =>
                rw [hq] at HCR
                have HE := Aside0.mk (show a ≠ b from by
                  rintro rfl
                  have h := HTa.out.symm.trans HTb.out
                  have h2 := List.append_inj_right' h rfl
                  injection h2 with h2
                  rw [eqL_true h2] at hq
                  cases hq)
                clear hq
                go_wp2_with fail
                go_quiet ((refine (HCR.out _ (by repeat (first | exact HB.out | apply pw_below_drewN))).mono ?_; rintro e w' ⟨rfl, nd, rfl⟩; exact ⟨rfl, _, (World.drewN_drewN _ _ _).trans (congrArg W0.drewN (Nat.add_assoc _ _ _))⟩))
                go_wp2_with fail
                go_ret
                exact ⟨ret_b (eqG_false HE.out).symm, by repeat (first | exact HB.out | apply pw_below_drewN)⟩
        · have HE := Aside0.mk (show a ≠ b from fun e => q3 (by rw [e]))
          have t0 : (a.f0 == b.f0) = true := beq_iff_eq.mpr q0
          have t0' : (a.f0 != b.f0) = false := bne_eq_false_iff_eq.mpr q0
          have t2 : ((a.f2.length : Int) == (b.f2.length : Int)) = true := beq_iff_eq.mpr (by omega)
          have t2' : ((a.f2.length : Int) != (b.f2.length : Int)) = false := bne_eq_false_iff_eq.mpr (by omega)
          have t3 : ((a.f3.length : Int) == (b.f3.length : Int)) = false := beq_eq_false_iff_ne.mpr (by omega)
          have t3' : ((a.f3.length : Int) != (b.f3.length : Int)) = true := bne_iff_ne.mpr (by omega)
          have Q1 := Aside0.mk q1
          clear q0 q1 q2 q3
          go_wp2_with fail
          obtain ⟨ga, hga⟩ : ∃ x, x = w.heap.size := ⟨_, rfl⟩
          obtain ⟨gb, hgb⟩ : ∃ x, x = w.heap.size + 1 := ⟨_, rfl⟩
          obtain ⟨W0, hW0⟩ : ∃ x, x = ((w.alloc (.cells #[.int .i64 a.f0, .slice A1 a.f1.length c1, .slice A2 a.f2.length c2, .slice A3 a.f3.length c3] 28)).alloc (.cells #[.int .i64 b.f0, .slice D1 b.f1.length d1, .slice D2 b.f2.length d2, .slice D3 b.f3.length d3] 28)) := ⟨_, rfl⟩
          rw [← hW0, ← hgb, ← hga]
          have BA := Aside0.mk (show W0.heap[ga]? = some (.cells #[.int .i64 a.f0, .slice A1 a.f1.length c1, .slice A2 a.f2.length c2, .slice A3 a.f3.length c3] 28 (0, 0)) by rw [hW0, hga]; exact blk_alloc (World.alloc_heap_new _ _) _)
          have BB := Aside0.mk (show W0.heap[gb]? = some (.cells #[.int .i64 b.f0, .slice D1 b.f1.length d1, .slice D2 b.f2.length d2, .slice D3 b.f3.length d3] 28 (0, 0)) by
            rw [hW0, hgb]
            have h := World.alloc_heap_new (w.alloc (.cells #[.int .i64 a.f0, .slice A1 a.f1.length c1, .slice A2 a.f2.length c2, .slice A3 a.f3.length c3] 28)) (.cells #[.int .i64 b.f0, .slice D1 b.f1.length d1, .slice D2 b.f2.length d2, .slice D3 b.f3.length d3] 28)
            simpa using h)
          have HB := Aside0.mk (show Below w.heap.size w W0 by rw [hW0]; exact below_alloc (below_alloc (Below.refl _ _) _) _)
          have HGA := Aside0.mk hga
          clear hW0 hga hgb HB0
          have z0 : W0.cell? ⟨ga, 0, none⟩ = some (.int .i64 a.f0) := (blk_cell BA.out 0).trans rfl
          have z1 : W0.cell? ⟨ga, 1, none⟩ = some (.slice A1 a.f1.length c1) := (blk_cell BA.out 1).trans rfl
          have z2 : W0.cell? ⟨ga, 2, none⟩ = some (.slice A2 a.f2.length c2) := (blk_cell BA.out 2).trans rfl
          have z3 : W0.cell? ⟨ga, 3, none⟩ = some (.slice A3 a.f3.length c3) := (blk_cell BA.out 3).trans rfl
          have y0 : W0.cell? ⟨gb, 0, none⟩ = some (.int .i64 b.f0) := (blk_cell BB.out 0).trans rfl
          have y1 : W0.cell? ⟨gb, 1, none⟩ = some (.slice D1 b.f1.length d1) := (blk_cell BB.out 1).trans rfl
          have y2 : W0.cell? ⟨gb, 2, none⟩ = some (.slice D2 b.f2.length d2) := (blk_cell BB.out 2).trans rfl
          have y3 : W0.cell? ⟨gb, 3, none⟩ = some (.slice D3 b.f3.length d3) := (blk_cell BB.out 3).trans rfl
          refine (sameLine_calls A1 D1 c1 d1 a.f1 b.f1 W0 (Kd.C_below H1.out HB.out) (Kd.C_below K1.out HB.out) hb1).mono ?_
          rintro e w' ⟨rfl, nd, rfl⟩
          rw [eqL_true Q1.out]
          go_wp2_with fail
          go_ret
          exact ⟨ret_b (eqG_false HE.out).symm, pw_below_drewN HB.out _⟩
      · have HE := Aside0.mk (show a ≠ b from fun e => q2 (by rw [e]))
        have t0 : (a.f0 == b.f0) = true := beq_iff_eq.mpr q0
        have t0' : (a.f0 != b.f0) = false := bne_eq_false_iff_eq.mpr q0
        have t2 : ((a.f2.length : Int) == (b.f2.length : Int)) = false := beq_eq_false_iff_ne.mpr (by omega)
        have t2' : ((a.f2.length : Int) != (b.f2.length : Int)) = true := bne_iff_ne.mpr (by omega)
        have Q1 := Aside0.mk q1
        clear q0 q1 q2
        go_wp2_with fail
        obtain ⟨ga, hga⟩ : ∃ x, x = w.heap.size := ⟨_, rfl⟩
        obtain ⟨gb, hgb⟩ : ∃ x, x = w.heap.size + 1 := ⟨_, rfl⟩
        obtain ⟨W0, hW0⟩ : ∃ x, x = ((w.alloc (.cells #[.int .i64 a.f0, .slice A1 a.f1.length c1, .slice A2 a.f2.length c2, .slice A3 a.f3.length c3] 28)).alloc (.cells #[.int .i64 b.f0, .slice D1 b.f1.length d1, .slice D2 b.f2.length d2, .slice D3 b.f3.length d3] 28)) := ⟨_, rfl⟩
        rw [← hW0, ← hgb, ← hga]
        have BA := Aside0.mk (show W0.heap[ga]? = some (.cells #[.int .i64 a.f0, .slice A1 a.f1.length c1, .slice A2 a.f2.length c2, .slice A3 a.f3.length c3] 28 (0, 0)) by rw [hW0, hga]; exact blk_alloc (World.alloc_heap_new _ _) _)
        have BB := Aside0.mk (show W0.heap[gb]? = some (.cells #[.int .i64 b.f0, .slice D1 b.f1.length d1, .slice D2 b.f2.length d2, .slice D3 b.f3.length d3] 28 (0, 0)) by
          rw [hW0, hgb]
          have h := World.alloc_heap_new (w.alloc (.cells #[.int .i64 a.f0, .slice A1 a.f1.length c1, .slice A2 a.f2.length c2, .slice A3 a.f3.length c3] 28)) (.cells #[.int .i64 b.f0, .slice D1 b.f1.length d1, .slice D2 b.f2.length d2, .slice D3 b.f3.length d3] 28)
          simpa using h)
        have HB := Aside0.mk (show Below w.heap.size w W0 by rw [hW0]; exact below_alloc (below_alloc (Below.refl _ _) _) _)
        have HGA := Aside0.mk hga
        clear hW0 hga hgb HB0
        have z0 : W0.cell? ⟨ga, 0, none⟩ = some (.int .i64 a.f0) := (blk_cell BA.out 0).trans rfl
        have z1 : W0.cell? ⟨ga, 1, none⟩ = some (.slice A1 a.f1.length c1) := (blk_cell BA.out 1).trans rfl
        have z2 : W0.cell? ⟨ga, 2, none⟩ = some (.slice A2 a.f2.length c2) := (blk_cell BA.out 2).trans rfl
        have z3 : W0.cell? ⟨ga, 3, none⟩ = some (.slice A3 a.f3.length c3) := (blk_cell BA.out 3).trans rfl
        have y0 : W0.cell? ⟨gb, 0, none⟩ = some (.int .i64 b.f0) := (blk_cell BB.out 0).trans rfl
        have y1 : W0.cell? ⟨gb, 1, none⟩ = some (.slice D1 b.f1.length d1) := (blk_cell BB.out 1).trans rfl
        have y2 : W0.cell? ⟨gb, 2, none⟩ = some (.slice D2 b.f2.length d2) := (blk_cell BB.out 2).trans rfl
        have y3 : W0.cell? ⟨gb, 3, none⟩ = some (.slice D3 b.f3.length d3) := (blk_cell BB.out 3).trans rfl
        refine (sameLine_calls A1 D1 c1 d1 a.f1 b.f1 W0 (Kd.C_below H1.out HB.out) (Kd.C_below K1.out HB.out) hb1).mono ?_
        rintro e w' ⟨rfl, nd, rfl⟩
        rw [eqL_true Q1.out]
        go_wp2_with fail
        go_ret
        exact ⟨ret_b (eqG_false HE.out).symm, pw_below_drewN HB.out _⟩
    · have HE := Aside0.mk (show a ≠ b from fun e => q1 (by rw [e]))
      have t0 : (a.f0 == b.f0) = true := beq_iff_eq.mpr q0
      have t0' : (a.f0 != b.f0) = false := bne_eq_false_iff_eq.mpr q0
      have Q1 := Aside0.mk q1
      clear q0 q1
      go_wp2_with fail
      obtain ⟨ga, hga⟩ : ∃ x, x = w.heap.size := ⟨_, rfl⟩
      obtain ⟨gb, hgb⟩ : ∃ x, x = w.heap.size + 1 := ⟨_, rfl⟩
      obtain ⟨W0, hW0⟩ : ∃ x, x = ((w.alloc (.cells #[.int .i64 a.f0, .slice A1 a.f1.length c1, .slice A2 a.f2.length c2, .slice A3 a.f3.length c3] 28)).alloc (.cells #[.int .i64 b.f0, .slice D1 b.f1.length d1, .slice D2 b.f2.length d2, .slice D3 b.f3.length d3] 28)) := ⟨_, rfl⟩
      rw [← hW0, ← hgb, ← hga]
      have BA := Aside0.mk (show W0.heap[ga]? = some (.cells #[.int .i64 a.f0, .slice A1 a.f1.length c1, .slice A2 a.f2.length c2, .slice A3 a.f3.length c3] 28 (0, 0)) by rw [hW0, hga]; exact blk_alloc (World.alloc_heap_new _ _) _)
      have BB := Aside0.mk (show W0.heap[gb]? = some (.cells #[.int .i64 b.f0, .slice D1 b.f1.length d1, .slice D2 b.f2.length d2, .slice D3 b.f3.length d3] 28 (0, 0)) by
        rw [hW0, hgb]
        have h := World.alloc_heap_new (w.alloc (.cells #[.int .i64 a.f0, .slice A1 a.f1.length c1, .slice A2 a.f2.length c2, .slice A3 a.f3.length c3] 28)) (.cells #[.int .i64 b.f0, .slice D1 b.f1.length d1, .slice D2 b.f2.length d2, .slice D3 b.f3.length d3] 28)
        simpa using h)
      have HB := Aside0.mk (show Below w.heap.size w W0 by rw [hW0]; exact below_alloc (below_alloc (Below.refl _ _) _) _)
      have HGA := Aside0.mk hga
      clear hW0 hga hgb HB0
      have z0 : W0.cell? ⟨ga, 0, none⟩ = some (.int .i64 a.f0) := (blk_cell BA.out 0).trans rfl
      have z1 : W0.cell? ⟨ga, 1, none⟩ = some (.slice A1 a.f1.length c1) := (blk_cell BA.out 1).trans rfl
      have z2 : W0.cell? ⟨ga, 2, none⟩ = some (.slice A2 a.f2.length c2) := (blk_cell BA.out 2).trans rfl
      have z3 : W0.cell? ⟨ga, 3, none⟩ = some (.slice A3 a.f3.length c3) := (blk_cell BA.out 3).trans rfl
      have y0 : W0.cell? ⟨gb, 0, none⟩ = some (.int .i64 b.f0) := (blk_cell BB.out 0).trans rfl
      have y1 : W0.cell? ⟨gb, 1, none⟩ = some (.slice D1 b.f1.length d1) := (blk_cell BB.out 1).trans rfl
      have y2 : W0.cell? ⟨gb, 2, none⟩ = some (.slice D2 b.f2.length d2) := (blk_cell BB.out 2).trans rfl
      have y3 : W0.cell? ⟨gb, 3, none⟩ = some (.slice D3 b.f3.length d3) := (blk_cell BB.out 3).trans rfl
      refine (sameLine_calls A1 D1 c1 d1 a.f1 b.f1 W0 (Kd.C_below H1.out HB.out) (Kd.C_below K1.out HB.out) hb1).mono ?_
      rintro e w' ⟨rfl, nd, rfl⟩
      rw [eqL_false Q1.out]
      go_wp2_with fail
      go_ret
      exact ⟨ret_b (eqG_false HE.out).symm, pw_below_drewN HB.out _⟩
  · have HE := Aside0.mk (show a ≠ b from fun e => q0 (by rw [e]))
    have t0 : (a.f0 == b.f0) = false := beq_eq_false_iff_ne.mpr q0
    have t0' : (a.f0 != b.f0) = true := bne_iff_ne.mpr q0
    clear q0
    go_wp2_with fail
    obtain ⟨ga, hga⟩ : ∃ x, x = w.heap.size := ⟨_, rfl⟩
    obtain ⟨gb, hgb⟩ : ∃ x, x = w.heap.size + 1 := ⟨_, rfl⟩
    obtain ⟨W0, hW0⟩ : ∃ x, x = ((w.alloc (.cells #[.int .i64 a.f0, .slice A1 a.f1.length c1, .slice A2 a.f2.length c2, .slice A3 a.f3.length c3] 28)).alloc (.cells #[.int .i64 b.f0, .slice D1 b.f1.length d1, .slice D2 b.f2.length d2, .slice D3 b.f3.length d3] 28)) := ⟨_, rfl⟩
    rw [← hW0, ← hgb, ← hga]
    have BA := Aside0.mk (show W0.heap[ga]? = some (.cells #[.int .i64 a.f0, .slice A1 a.f1.length c1, .slice A2 a.f2.length c2, .slice A3 a.f3.length c3] 28 (0, 0)) by rw [hW0, hga]; exact blk_alloc (World.alloc_heap_new _ _) _)
    have BB := Aside0.mk (show W0.heap[gb]? = some (.cells #[.int .i64 b.f0, .slice D1 b.f1.length d1, .slice D2 b.f2.length d2, .slice D3 b.f3.length d3] 28 (0, 0)) by
      rw [hW0, hgb]
      have h := World.alloc_heap_new (w.alloc (.cells #[.int .i64 a.f0, .slice A1 a.f1.length c1, .slice A2 a.f2.length c2, .slice A3 a.f3.length c3] 28)) (.cells #[.int .i64 b.f0, .slice D1 b.f1.length d1, .slice D2 b.f2.length d2, .slice D3 b.f3.length d3] 28)
      simpa using h)
    have HB := Aside0.mk (show Below w.heap.size w W0 by rw [hW0]; exact below_alloc (below_alloc (Below.refl _ _) _) _)
    have HGA := Aside0.mk hga
    clear hW0 hga hgb HB0
    have z0 : W0.cell? ⟨ga, 0, none⟩ = some (.int .i64 a.f0) := (blk_cell BA.out 0).trans rfl
    have z1 : W0.cell? ⟨ga, 1, none⟩ = some (.slice A1 a.f1.length c1) := (blk_cell BA.out 1).trans rfl
    have z2 : W0.cell? ⟨ga, 2, none⟩ = some (.slice A2 a.f2.length c2) := (blk_cell BA.out 2).trans rfl
    have z3 : W0.cell? ⟨ga, 3, none⟩ = some (.slice A3 a.f3.length c3) := (blk_cell BA.out 3).trans rfl
    have y0 : W0.cell? ⟨gb, 0, none⟩ = some (.int .i64 b.f0) := (blk_cell BB.out 0).trans rfl
    have y1 : W0.cell? ⟨gb, 1, none⟩ = some (.slice D1 b.f1.length d1) := (blk_cell BB.out 1).trans rfl
    have y2 : W0.cell? ⟨gb, 2, none⟩ = some (.slice D2 b.f2.length d2) := (blk_cell BB.out 2).trans rfl
    have y3 : W0.cell? ⟨gb, 3, none⟩ = some (.slice D3 b.f3.length d3) := (blk_cell BB.out 3).trans rfl
    go_ret
    exact ⟨ret_b (eqG_false HE.out).symm, by rw [HGA.out]; exact HB.out⟩
end Go.Proofs.YtiiolhnpnlmkjaaDoor.Tree
