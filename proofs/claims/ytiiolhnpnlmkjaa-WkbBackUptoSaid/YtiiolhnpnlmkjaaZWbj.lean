/- Texts of this claim laid one behind the other (TPB; TMkT; TGrown; TParseL; TWalk; THurtL; PCt; TBytes; TBackL; PWkbPrintsx6): what each proves stands at its own names; the last one is the claim's. No conditions but those told. -/
import Derived.Test.YtiiolhnpnlmkjaaZWbi
import Derived.Test.YtiiolhnpnlmkjaaProg
import Derived.Below
import Derived.Deep.Draws
import Derived.Deep.AppendLies
import Derived.Maps.AppendAt
import Derived.OwnWalk
import Derived.Laws.BytesArg
import Derived.Laws.MakeOwn
import Derived.Laws.OwnMore
import Derived.Deep.OwnRows
import Derived.Tactics
import Derived.Lib.ConvBytes
import Derived.Laws.Slices
import Derived.WalkKit
import Derived.KernelRfl
import Derived.RowKit3
import Derived.Deep.LoopGhost
import Derived.Deep.QuietTactic
import Derived.BigQuiet
import Derived.WideLaws
import Derived.Deep.DeepCutAuto
import Derived.Deep.CutBlock
import Derived.Deep.RegionHeld3
import Derived.Laws.Rows
import Derived.Lib.AppendStr
import Derived.ArgAppend
import Derived.Laws.IdiomCopy
import Derived.OrdersHeld
import Derived.Laws.BitsLemmas
import Derived.RowKit
import Derived.Test.YtiiolhnpnlmkjaaMathCopy
import Derived.Test.YtiiolhnpnlmkjaaMathMake
import Derived.IntWalk
import Derived.Laws.BitsAllLaws
import Derived.RegionTactic
import Derived.Test.YtiiolhnpnlmkjaaWWords
import Derived.Test.YtiiolhnpnlmkjaaWLast
import Derived.Test.YtiiolhnpnlmkjaaWTab
import Derived.Test.YtiiolhnpnlmkjaaWFour
import Derived.Test.YtiiolhnpnlmkjaaWQPut
import Derived.Test.YtiiolhnpnlmkjaaWApart
import Derived.Test.YtiiolhnpnlmkjaaWArr
import Derived.Test.YtiiolhnpnlmkjaaWZeros
import Derived.Test.YtiiolhnpnlmkjaaWFoot
import Derived.Test.YtiiolhnpnlmkjaaWKept
import Derived.Test.YtiiolhnpnlmkjaaWShare
import Derived.Test.YtiiolhnpnlmkjaaWN
import Derived.Test.YtiiolhnpnlmkjaaWFootNe
import Derived.Test.YtiiolhnpnlmkjaaWAt
import Derived.Test.YtiiolhnpnlmkjaaWEqStruct
import Derived.Test.YtiiolhnpnlmkjaaWRepsOne
import Derived.Test.YtiiolhnpnlmkjaaWInv
import Derived.Test.YtiiolhnpnlmkjaaWInvWords
import Derived.Test.YtiiolhnpnlmkjaaWGuard
import Derived.Test.YtiiolhnpnlmkjaaWNEv
import Derived.Test.YtiiolhnpnlmkjaaWMore
namespace Go.Proofs.Ytiiolhnpnlmkjaa.Tree
open Go.RowKit Go.Proofs.Ytiiolhnpnlmkjaa.PWkbPrints Go.Proofs.YtiiolhnpnlmkjaaW.PrintWords Go.Proofs.YtiiolhnpnlmkjaaW.PrintLast Go.Proofs.YtiiolhnpnlmkjaaW.PrintMore Go.Proofs.Ytiiolhnpnlmkjaa.Rdr
theorem St.drop {b X : List Int} {a : Nat} (h : St b a X) : b.drop a = X ++ b.drop (a + X.length) := by
  obtain ⟨t, h⟩ := h
  rw [← List.drop_drop, h, List.drop_left]
section
variable {b : List Int} (hb : Byt b)
include hb
end
theorem gd_mk {g : Ge} {lvl o : Int} (h1 : shapedB ⟨g, lvl, o⟩ = true) (h2 : finL (own g) = true) (h3 : ∀ q ∈ own g, Rg q) (h4 : ∀ p ∈ g.f3, AllG p (lvl + 1) g.f0) : AllG g lvl o := by
  intro x hx
  rw [nodes_eq] at hx
  rcases List.mem_cons.1 hx with rfl | hx
  · exact ⟨h1, h2, h3⟩
  · rw [nodesL_flat] at hx
    obtain ⟨l, hl, hx⟩ := List.mem_flatten.1 hx
    obtain ⟨p, hp, rfl⟩ := List.mem_map.1 hl
    exact h4 p hp x hx
theorem deep_mk {g : Ge} {lvl o deep : Int} (h1 : lvl ≤ deep) (h4 : ∀ p ∈ g.f3, ∀ x ∈ nodes p (lvl + 1) g.f0, x.f1 ≤ deep) : ∀ x ∈ nodes g lvl o, x.f1 ≤ deep := by
  intro x hx
  rw [nodes_eq] at hx
  rcases List.mem_cons.1 hx with rfl | hx
  · exact h1
  · rw [nodesL_flat] at hx
    obtain ⟨l, hl, hx⟩ := List.mem_flatten.1 hx
    obtain ⟨p, hp, rfl⟩ := List.mem_map.1 hl
    exact h4 p hp x hx
theorem shaped_mk {k o lvl : Int} {l : List Pt} {r : List (List Pt)} {ps : List Ge} (hk : 1 ≤ k ∧ k ≤ 7) (hf : fitsB k o = true) (h1 : 2 < k → l = []) (h2 : k ≠ 3 → r = []) (h3 : k < 4 → ps = []) (h4 : ∀ x ∈ r, x ≠ []) (h5 : k = 1 → l.length ≤ 1) : shapedB ⟨⟨k, l, r, ps⟩, lvl, o⟩ = true := by
  unfold shapedB kindB lacksB
  simp only [Bool.and_eq_true, Bool.or_eq_true, decide_eq_true_iff, Bool.not_eq_true', Bool.or_eq_false_iff, Bool.and_eq_false_iff, decide_eq_false_iff_not, List.all_eq_true]
  refine ⟨hk, hf, ⟨?_, ?_, ?_⟩, ?_, ?_⟩
  · by_cases c : 2 < k
    · rw [h1 c]; simp
    · exact .inr c
  · by_cases c : k = 3
    · exact .inr (by simpa using c)
    · rw [h2 c]; simp
  · by_cases c : k < 4
    · rw [h3 c]; simp
    · exact .inr c
  · intro x hx
    have := h4 x hx
    cases x
    · exact absurd rfl this
    · rfl
  · by_cases c : k = 1
    · exact .inr (h5 c)
    · exact .inl c
/-- An error's place lies between two. -/
def Gone {α : Type} (r : Except (Int × Int) α) (a e : Nat) : Prop := ∀ x, r = .error x → (a : Int) ≤ x.1 ∧ x.1 ≤ e
theorem Gone.map {α β : Type} {r : Except (Int × Int) α} {a e : Nat} (h : Gone r a e) (f : α → β) : Gone (r.map f) a e := by
  intro x hx
  cases r with
  | error y => injection hx with hx; exact h x (by rw [hx])
  | ok v => cases hx
theorem Gone.mono {α : Type} {r : Except (Int × Int) α} {a a' e : Nat} (h : Gone r a' e) (ha : a ≤ a') : Gone r a e := by
  intro x hx
  have := h x hx
  omega
end Go.Proofs.Ytiiolhnpnlmkjaa.Tree
namespace Go.Proofs.Ytiiolhnpnlmkjaa.Tree
open Go.RowKit Go.Proofs.Ytiiolhnpnlmkjaa.PWkbPrints Go.Proofs.YtiiolhnpnlmkjaaW.PrintWords Go.Proofs.YtiiolhnpnlmkjaaW.PrintLast Go.Proofs.YtiiolhnpnlmkjaaW.PrintMore Go.Proofs.Ytiiolhnpnlmkjaa.PMk
attribute [local go_sem] Oper.semAt_some max2_int max_two min2_int min_two
theorem fin_bits (q : Nat) : (q &&& 4094) &&& 2047 ≠ 2047 := by
  rw [Nat.and_assoc, show 4094 &&& 2047 = 2046 from by decide]
  have : q &&& 2046 ≤ 2046 := Nat.and_le_right
  omega
theorem expo_nat (n : Nat) (h : n < 18446744073709551616) : expo (n : Int) = ((n / 4503599627370496 &&& 2047 : Nat) : Int) := by
  unfold expo
  rw [show ((n : Int) / 4503599627370496) = ((n / 4503599627370496 : Nat) : Int) from by omega]
  have h1 := u64_and_nat (n / 4503599627370496) 2047 (by omega) (by omega)
  rw [show ((2047 : Nat) : Int) = 2047 from rfl] at h1
  rw [h1]
  have h2 : n / 4503599627370496 &&& 2047 ≤ 2047 := Nat.and_le_right
  unfold wrap64
  omega
theorem finM_ok (b : Int) (h0 : 0 ≤ b) (h1 : b < 18446744073709551616) : (0 ≤ finM b ∧ finM b < 18446744073709551616) ∧ classOf (finM b) ≤ 2 := by
  obtain ⟨n, rfl⟩ := Int.eq_ofNat_of_zero_le h0
  have hn : n < 18446744073709551616 := by omega
  have hand := u64_and_nat (n / 4503599627370496) 2047 (by omega) (by omega)
  rw [show ((2047 : Nat) : Int) = 2047 from rfl] at hand
  have hdiv : ((n : Int) / 4503599627370496) = ((n / 4503599627370496 : Nat) : Int) := by omega
  have key : ∀ m : Nat, m < 18446744073709551616 → (m / 4503599627370496 &&& 2047) ≠ 2047 → classOf (m : Int) ≤ 2 := by
    intro m hm hne
    have h2 := finC_iff (m : Int)
    rw [expo_nat m hm] at h2
    have h3 : decide (((m / 4503599627370496 &&& 2047 : Nat) : Int) ≠ 2047) = true := decide_eq_true (by omega)
    rw [h3] at h2
    unfold finC at h2
    exact of_decide_eq_true h2
  unfold finM
  rw [hdiv, hand]
  by_cases c : ((n / 4503599627370496 &&& 2047 : Nat) : Int) = 2047
  · rw [if_pos c]
    have h2 := u64_andNot_nat n 4503599627370496 hn (by omega)
    rw [show ((4503599627370496 : Nat) : Int) = 4503599627370496 from rfl] at h2
    rw [h2]
    have h3 : n &&& (18446744073709551615 - 4503599627370496) < 2 ^ 64 := Nat.and_lt_two_pow _ (by decide)
    have h4 : (n &&& (18446744073709551615 - 4503599627370496)) / 4503599627370496 = (n / 4503599627370496) &&& 4094 := by
      have h5 := Nat.shiftRight_and_distrib (a := n) (b := 18446744073709551615 - 4503599627370496) (i := 52)
      rw [Nat.shiftRight_eq_div_pow, Nat.shiftRight_eq_div_pow, Nat.shiftRight_eq_div_pow] at h5
      exact h5
    refine ⟨⟨by omega, by omega⟩, key _ (by simpa using h3) ?_⟩
    rw [h4]
    exact fin_bits _
  · rw [if_neg c]
    exact ⟨⟨by omega, h1⟩, key n hn (fun e => c (by rw [e]; rfl))⟩
def Xy (l : List Wn) : Prop := ∀ x ∈ l, ∀ y ∈ x.f2, 0 ≤ y ∧ y < 18446744073709551616
theorem takeM_xy {l : List Wn} (h : Xy l) (nx : Nat) : ∀ y ∈ (takeM l nx).1.f2, 0 ≤ y ∧ y < 18446744073709551616 := by
  unfold takeM
  split
  · intro y hy; cases hy
  · rename_i c
    refine h _ ?_
    rw [rd_Wn, Int.toNat_natCast, List.getD_eq_getElem?_getD, List.getElem?_eq_getElem (by omega)]
    exact List.getElem_mem _
theorem ptM_ok {xy : List Int} (h : ∀ y ∈ xy, 0 ≤ y ∧ y < 18446744073709551616) (i : Nat) : Rg (ptM xy i) ∧ classOf (ptM xy i).f0 ≤ 2 ∧ classOf (ptM xy i).f1 ≤ 2 := by
  unfold ptM
  split
  · rename_i c
    have hm : ∀ j : Nat, j < xy.length → rd xy (j : Int) ∈ xy := fun j hj => by
      rw [rd, Int.toNat_natCast, List.getD_eq_getElem?_getD, List.getElem?_eq_getElem hj]
      exact List.getElem_mem _
    have h1 := h _ (hm (2 * i) (by omega))
    have h2 := h _ (hm (2 * i + 1) c)
    have k1 := finM_ok _ h1.1 h1.2
    have k2 := finM_ok _ h2.1 h2.2
    exact ⟨⟨k1.1, k2.1⟩, k1.2, k2.2⟩
  · refine ⟨⟨⟨?_, ?_⟩, ?_, ?_⟩, ?_, ?_⟩ <;> (unfold onePt; dsimp only)
    · decide
    · decide
    · decide
    · decide
    · have : classOf 4607182418800017408 = 2 := by kernel_rfl
      rw [this]; decide
    · have : classOf 4607182418800017408 = 2 := by kernel_rfl
      rw [this]; decide
theorem ptsM_ok {xy : List Int} (h : ∀ y ∈ xy, 0 ≤ y ∧ y < 18446744073709551616) (n : Nat) : finL (ptsM xy n) = true ∧ ∀ q ∈ ptsM xy n, Rg q := by
  refine ⟨?_, ?_⟩
  · unfold finL finLC finC
    rw [List.all_eq_true]
    intro q hq
    obtain ⟨i, hi, rfl⟩ := List.mem_map.1 hq
    have := ptM_ok h i
    rw [Bool.and_eq_true]
    exact ⟨decide_eq_true this.2.1, decide_eq_true this.2.2⟩
  · intro q hq
    obtain ⟨i, hi, rfl⟩ := List.mem_map.1 hq
    exact (ptM_ok h i).1
theorem partsM_all {P : Ge → Prop} (f : Nat → Ge × Nat) (h : ∀ nx, P (f nx).1) : ∀ (m nx : Nat), ∀ p ∈ (partsM f m nx).1, P p := by
  intro m
  induction m with
  | zero => intro nx p hp; cases hp
  | succ m ih =>
    intro nx p hp
    rw [partsM] at hp
    rcases List.mem_cons.1 hp with rfl | hp
    · exact h nx
    · exact ih _ p hp
theorem bulks_all (B : Nat) : ∀ (l : List Ge), (∀ p ∈ l, p.bulk ≤ B) → bulks l ≤ l.length * B := by
  intro l
  induction l with
  | nil => intro _; simp [bulks]
  | cons p l ih =>
    intro h
    rw [bulks, List.length_cons, Nat.add_mul]
    have h1 := h p List.mem_cons_self
    have h2 := ih (fun q hq => h q (List.mem_cons_of_mem _ hq))
    omega
def Fit (kind o : Int) : Prop := (o = 0 ∧ kind = 0) ∨ (o = 7 ∧ kind = 0) ∨ (4 ≤ o ∧ o ≤ 6 ∧ kind = o - 3)
theorem rings_small (xy : List Int) (m : Nat) (hm : m < 5) : ((List.range m).map fun i => ptsM xy (1 + i)).flatten.length ≤ 10 := by
  rw [List.length_flatten, List.map_map]
  have : (List.map (List.length ∘ fun i => ptsM xy (1 + i)) (List.range m)) = List.map (fun i => 1 + i) (List.range m) := List.map_congr_left fun i _ => by simp [ptsM_len]
  rw [this]
  match m, hm with
  | 0, _ => decide
  | 1, _ => decide
  | 2, _ => decide
  | 3, _ => decide
  | 4, _ => decide
theorem mkG_ok {l : List Wn} (hx : Xy l) (f : Nat) : ∀ (nx : Nat) (kind levels lvl o : Int) (L : Nat), levels = (L : Int) + 1 → L + 1 ≤ f → Fit kind o →
    AllG (mkG l f nx kind levels).1 lvl o ∧ (∀ x ∈ nodes (mkG l f nx kind levels).1 lvl o, x.f1 ≤ lvl + L) ∧ (mkG l f nx kind levels).1.bulk + 1 ≤ 16 * 4 ^ L := by
  induction f with
  | zero => intro nx kind levels lvl o L _ h; omega
  | succ f ih =>
    intro nx kind levels lvl o L hL hf hfit
    have hkind : 0 ≤ kind ∧ kind ≤ 7 := by unfold Fit at hfit; omega
    have hkr := kindM_range (takeM l nx).1 kind levels hkind
    have hxy := takeM_xy hx nx
    have hm5 := (manyM_lt (takeM l nx).1).1
    obtain ⟨x, hx_⟩ : ∃ y, y = (takeM l nx).1 := ⟨_, rfl⟩
    obtain ⟨n1, hn1⟩ : ∃ y, y = (takeM l nx).2 := ⟨_, rfl⟩
    unfold mkG
    rw [← hx_] at hkr hxy hm5
    rw [← hx_, ← hn1]
    obtain ⟨k, hk⟩ : ∃ y, y = kindM x kind levels := ⟨_, rfl⟩
    rw [← hk] at hkr ⊢
    obtain ⟨m, hm⟩ : ∃ y, y = manyM x := ⟨_, rfl⟩
    rw [← hm] at hm5 ⊢
    have hfb : fitsB k o = true := by
      unfold fitsB
      unfold Fit at hfit
      split
      · exact decide_eq_true (by omega)
      · rfl
    have hpow : 0 < 4 ^ L := Nat.pow_pos (by decide)
    by_cases k1 : k = 1
    · rw [if_pos k1]
      have hok := ptsM_ok hxy (m % 2)
      refine ⟨gd_mk (shaped_mk (by omega) (by rw [← k1]; exact hfb) (fun h => absurd h (by decide)) (fun _ => rfl) (fun _ => rfl) (by simp) (fun _ => by rw [ptsM_len]; omega)) (by simpa [own] using hok.1) (by simpa [own] using hok.2) (by simp), deep_mk (by omega) (by simp), ?_⟩
      rw [Ge.bulk_eq]
      simp only [List.length_nil, List.flatten_nil, bulks, ptsM_len]
      omega
    rw [if_neg k1]
    by_cases k2 : k = 2
    · rw [if_pos k2]
      have hok := ptsM_ok hxy m
      refine ⟨gd_mk (shaped_mk (by omega) (by rw [← k2]; exact hfb) (fun h => absurd h (by decide)) (fun _ => rfl) (fun _ => rfl) (by simp) (fun h => absurd h (by decide))) (by simpa [own] using hok.1) (by simpa [own] using hok.2) (by simp), deep_mk (by omega) (by simp), ?_⟩
      rw [Ge.bulk_eq]
      simp only [List.length_nil, List.flatten_nil, bulks, ptsM_len]
      omega
    rw [if_neg k2]
    by_cases k3 : k = 3
    · rw [if_pos k3]
      refine ⟨gd_mk (shaped_mk (by omega) (by rw [← k3]; exact hfb) (fun _ => rfl) (fun h => absurd rfl h) (fun _ => rfl) ?_ (fun h => absurd h (by decide))) ?_ ?_ (by simp), deep_mk (by omega) (by simp), ?_⟩
      · intro r hr e
        obtain ⟨i, hi, rfl⟩ := List.mem_map.1 hr
        have := congrArg List.length e
        rw [ptsM_len] at this
        simp at this
      · rw [finL_own, Bool.and_eq_true, List.all_eq_true]
        refine ⟨rfl, fun r hr => ?_⟩
        obtain ⟨i, hi, rfl⟩ := List.mem_map.1 hr
        exact (ptsM_ok hxy _).1
      · intro q hq
        unfold own at hq
        rw [List.nil_append] at hq
        obtain ⟨r, hr, hq⟩ := List.mem_flatten.1 hq
        obtain ⟨i, hi, rfl⟩ := List.mem_map.1 hr
        exact (ptsM_ok hxy _).2 q hq
      · have h10 := rings_small x.f2 m hm5
        rw [Ge.bulk_eq]
        simp only [List.length_nil, bulks, List.length_map, List.length_range]
        omega
    rw [if_neg k3]
    have hL1 : 1 ≤ L := by omega
    obtain ⟨L', rfl⟩ : ∃ L', L = L' + 1 := ⟨L - 1, by omega⟩
    obtain ⟨pk, hpk⟩ : ∃ y, y = (if k = 7 then 0 else k - 3) := ⟨_, rfl⟩
    rw [← hpk]
    have hfp : Fit pk k := by
      unfold Fit
      rw [hpk]
      split <;> omega
    have hall : ∀ nx, AllG (mkG l f nx pk (levels - 1)).1 (lvl + 1) k ∧ (∀ x ∈ nodes (mkG l f nx pk (levels - 1)).1 (lvl + 1) k, x.f1 ≤ lvl + 1 + L') ∧ (mkG l f nx pk (levels - 1)).1.bulk + 1 ≤ 16 * 4 ^ L' := fun nx =>
      ih nx pk (levels - 1) (lvl + 1) k L' (by omega) (by omega) hfp
    have hps := partsM_all (P := fun p => AllG p (lvl + 1) k ∧ (∀ x ∈ nodes p (lvl + 1) k, x.f1 ≤ lvl + 1 + L') ∧ p.bulk + 1 ≤ 16 * 4 ^ L') (fun p => mkG l f p pk (levels - 1)) hall m n1
    have hlen := partsM_len (fun p => mkG l f p pk (levels - 1)) m n1
    generalize (partsM (fun p => mkG l f p pk (levels - 1)) m n1).1 = ps at hps hlen
    refine ⟨gd_mk (shaped_mk (by omega) hfb (fun _ => rfl) (fun _ => rfl) (fun h => by omega) (by simp) (fun h => absurd h k1)) rfl (by simp [own]) (fun p hp => (hps p hp).1), deep_mk (by omega) (fun p hp y hy => ?_), ?_⟩
    · have := (hps p hp).2.1 y hy
      omega
    · have hb := bulks_all (16 * 4 ^ L' - 1) ps (fun p hp => by have := (hps p hp).2.2; omega)
      rw [hlen] at hb
      rw [Ge.bulk_eq]
      simp only [List.length_nil, List.flatten_nil]
      have h4 : m * (16 * 4 ^ L' - 1) ≤ 4 * (16 * 4 ^ L' - 1) := Nat.mul_le_mul_right _ (by omega)
      have h1' : 0 < 4 ^ L' := Nat.pow_pos (by decide)
      rw [Nat.pow_succ]
      omega
/-- The tree that grown makes. -/
def treeM (l : List Wn) : Ge := (mkG l 6 0 0 6).1
theorem scan_none : ∀ (l : List It) (k n : Nat), (∀ x ∈ l, shapedB x = true ∧ finL (own x.f0) = true ∧ x.f1 ≤ 256) → n + l.length + ptsOf l ≤ 65536 → scanC k n l = none := by
  intro l
  induction l with
  | nil => intro k n _ _; rfl
  | cons x l ih =>
    intro k n h hn
    rw [List.length_cons, ptsOf_cons] at hn
    obtain ⟨h1, h2, h3⟩ := h x List.mem_cons_self
    have hw : wrongC x ((n + 1 + (own x.f0).length : Nat) : Int) = 0 := by
      rw [wrong_eq, if_neg (by omega), if_pos h1, if_neg (by omega), if_pos h2]
    rw [scanC_cons, if_pos hw]
    exact ih _ _ (fun y hy => h y (List.mem_cons_of_mem _ hy)) (by omega)
theorem nodes_wt (g : Ge) : ∀ lvl o : Int, (nodes g lvl o).length + ptsOf (nodes g lvl o) ≤ g.bulk := by
  induction g using Ge.ind with
  | h g ih =>
    intro lvl o
    rw [nodes_eq, List.length_cons, ptsOf_cons]
    have hq := g.bulk_eq
    have ho : (own g).length = g.f1.length + g.f2.flatten.length := by unfold own; rw [List.length_append]
    have : ∀ ps : List Ge, (∀ p ∈ ps, p ∈ g.f3) → (nodesL ps (lvl + 1) g.f0).length + ptsOf (nodesL ps (lvl + 1) g.f0) ≤ bulks ps := by
      intro ps
      induction ps with
      | nil => intro _; simp [nodesL, bulks, ptsOf]
      | cons p ps ihp =>
        intro h
        have h1 := ih p (h p List.mem_cons_self) (lvl + 1) g.f0
        have h2 := ihp (fun q hq => h q (List.mem_cons_of_mem _ hq))
        have h3 : ∀ a b : List It, ptsOf (a ++ b) = ptsOf a + ptsOf b := by
          intro a b
          induction a with
          | nil => simp [ptsOf]
          | cons x a iha => rw [List.cons_append, ptsOf_cons, ptsOf_cons, iha]; omega
        simp only [nodesL, bulks, List.length_append, h3]
        omega
    have := this g.f3 (fun _ h => h)
    dsimp only
    omega
theorem check_ok {g : Ge} (h : AllG g 1 0) (hd : ∀ x ∈ nodes g 1 0, x.f1 ≤ 256) (hb : g.bulk ≤ 65536) : checkR g = none := by
  refine scan_none _ 0 0 (fun x hx => ⟨(h x hx).s, (h x hx).f, hd x hx⟩) ?_
  have := nodes_wt g 1 0
  omega
theorem treeM_ok {l : List Wn} (hx : Xy l) : AllG (treeM l) 1 0 ∧ (∀ x ∈ nodes (treeM l) 1 0, x.f1 ≤ 6) ∧ (treeM l).bulk ≤ 16384 ∧ checkR (treeM l) = none := by
  have h := mkG_ok hx 6 0 0 6 1 0 5 (by decide) (by decide) (.inl ⟨rfl, rfl⟩)
  have h1 : (treeM l).bulk + 1 ≤ 16 * 4 ^ 5 := h.2.2
  have h2 : (16 * 4 ^ 5 : Nat) = 16384 := by decide
  have h3 : ∀ x ∈ nodes (treeM l) 1 0, x.f1 ≤ 6 := fun x hx => by have := h.2.1 x hx; omega
  exact ⟨h.1, h3, by omega, check_ok h.1 (fun x hx => by have := h3 x hx; omega) (by omega)⟩
set_option maxRecDepth 100000 in
set_option maxHeartbeats 16000000 in
theorem grown_calls (A : Option Addr) (c : Nat) (l : List Wn) (W : World) (hC : Kd.C kWn W A l.length l) (hl : l.length ≤ 1048576) (hxl : ∀ x ∈ l, x.f2.length ≤ 1048576) (hxy : Xy l) :
    Calls Try.prog 5 #[.slice A l.length c] W fun e W' => ∃ u, e = .returned (.tuple #[u, .bool true]) ∧ CopyOf 6 W W' u (treeM l) ∧ Below W.heap.size W W' := by
  have hu := Try.underlying28
  have hum := Try.underlying61
  have hmx : Try.prog.follows .mixedOrders = true := by kernel_rfl
  have HC := Aside0.mk hC
  have HT := Aside0.mk (treeM_ok hxy)
  clear hC
  go_enter Try.func5, Try.ntmps5
  go_upto_region 1 with fail
  obtain ⟨gs, hgs⟩ : ∃ y, y = W.heap.size := ⟨_, rfl⟩
  obtain ⟨W0, hW0⟩ : ∃ y, y = W.alloc (.cells #[.int .i64 0, .slice none 0 0, .slice none 0 0, .slice none 0 0] 28) := ⟨_, rfl⟩
  rw [← hW0, ← hgs]
  have hb0 : Below W.heap.size W W0 := by rw [hW0]; exact below_alloc (Below.refl _ _) _
  have H0 := Aside0.mk (And.intro hb0 (show W0.heap[gs]? = some (.cells #[.int .i64 0, .slice none 0 0, .slice none 0 0, .slice none 0 0] 28 (0, 0)) by rw [hW0, hgs]; exact World.alloc_heap_new _ _))
  have HGS := Aside0.mk (show W.heap.size ≤ gs by omega)
  clear hW0 hgs hb0
  go_upto_region 2 with fail
  obtain ⟨gm, hgm⟩ : ∃ y, y = W0.heap.size := ⟨_, rfl⟩
  obtain ⟨W1, hW1⟩ : ∃ y, y = W0.alloc (.cells #[.slice A l.length c, .int .i64 0] 61) := ⟨_, rfl⟩
  rw [← hW1, ← hgm]
  have hb1 : Below W0.heap.size W0 W1 := by rw [hW1]; exact below_alloc (Below.refl _ _) _
  have hk1 : Mk W W1 gm l A c 0 := ⟨by rw [hW1, hgm]; exact World.alloc_heap_new _ _, HC.out, by rw [hgm]; exact H0.out.1.size, below_step H0.out.1 hb1, by omega⟩
  have H1 := Aside0.mk (And.intro hk1 (blk_below H0.out.2 hb1))
  clear hW1 hgm hb1 hk1 H0
  go_wp2_with fail
  refine (mgeom_calls 6 W W1 gm l A c 0 0 6 H1.out.1 hl hxl (by decide) (by decide) (by decide) (by decide) (by decide)).mono ?_
  rintro e W2 ⟨u, rfl, hcp, hk2, hv2⟩
  have hcp' : CopyOf 6 W1 W2 u (treeM l) := hcp
  have HGW := Aside0.mk (show W.heap.size ≤ W1.heap.size ∧ gs < W1.heap.size from ⟨H1.out.1.K.size, blk_lt H1.out.2⟩)
  obtain ⟨g, hg⟩ : ∃ y, y = treeM l := ⟨_, rfl⟩
  rw [← hg] at hcp' HT
  have HGE := Aside0.mk hg
  have hag := hcp'.isG
  obtain ⟨A1, c1, A2, c2, A3, c3, rfl, _⟩ := hag
  have H2 := Aside0.mk (And.intro hk2.K (And.intro hcp' (H1.out.1.keepB hv2 H1.out.2 (by decide))))
  clear hcp hk2 hv2 hcp' H1 hg
  go_upto_region 3 with fail
  obtain ⟨gt, hgt⟩ : ∃ y, y = W2.heap.size := ⟨_, rfl⟩
  obtain ⟨W3, hW3⟩ : ∃ y, y = W2.alloc (.cells #[.int .i64 g.f0, .slice A1 g.f1.length c1, .slice A2 g.f2.length c2, .slice A3 g.f3.length c3] 28) := ⟨_, rfl⟩
  rw [← hW3, ← hgt]
  have hb3 : Below W2.heap.size W2 W3 := by rw [hW3]; exact below_alloc (Below.refl _ _) _
  have H3 := Aside0.mk (And.intro (below_step H2.out.1 hb3) (And.intro (H2.out.2.1.below hb3) (And.intro (blk_below H2.out.2.2 hb3) (show W3.heap[gt]? = some (.cells #[.int .i64 g.f0, .slice A1 g.f1.length c1, .slice A2 g.f2.length c2, .slice A3 g.f3.length c3] 28 (0, 0)) by rw [hW3, hgt]; exact World.alloc_heap_new _ _))))
  have HGT := Aside0.mk (show gs < gt by have := blk_lt H2.out.2.2; omega)
  clear hW3 hgt hb3 H2
  have hbd : Below W3.heap.size W3 W3.drew := below_drew (Below.refl _ _)
  have H4 := Aside0.mk (And.intro (below_step H3.out.1 hbd) (And.intro (H3.out.2.1.below hbd) (And.intro (blk_below H3.out.2.2.1 hbd) (blk_below H3.out.2.2.2 hbd))))
  refine start_ (n := 6) (S := fun w' => w'.cell? ⟨gt, 0, none⟩ = some (.int .i64 g.f0) ∧ w'.cell? ⟨gt, 1, none⟩ = some (.slice A1 g.f1.length c1) ∧ w'.cell? ⟨gt, 2, none⟩ = some (.slice A2 g.f2.length c2) ∧ w'.cell? ⟨gt, 3, none⟩ = some (.slice A3 g.f3.length c3) ∧ True) (ds := []) #[false, false, false, false, false, false] hmx rfl rfl ⟨(blk_cell H4.out.2.2.2 0).trans rfl, (blk_cell H4.out.2.2.2 1).trans rfl, (blk_cell H4.out.2.2.2 2).trans rfl, (blk_cell H4.out.2.2.2 3).trans rfl, trivial⟩ (fun hHeld => ?_)
  clear H3 hbd
  generalize W3.drew = Wd at *
  (refine take_ (i := 0) (N := some 11) (v := ?_) (a' := ?_) #[true, false, false, false, false, false] rfl rfl (by kernel_rfl) (fun _ _ _ h => h) (Or.inl ⟨by rfl, ?_⟩) hHeld ?_ ?_; rotate_left; (focus (intro w'_ hs_; (repeat obtain ⟨_, hs_⟩ := hs_); go_simp; with_reducible rfl)); rotate_left; (focus (simp only [Act.put, List.setIfInBounds_toArray, List.set_cons_zero, List.set_cons_succ]; rfl)))
  (refine take_ (i := 1) (N := some 12) (v := ?_) (a' := ?_) #[true, true, false, false, false, false] rfl rfl (by kernel_rfl) (fun _ _ _ h => h) (Or.inl ⟨by rfl, ?_⟩) hHeld ?_ ?_; rotate_left; (focus (intro w'_ hs_; (repeat obtain ⟨_, hs_⟩ := hs_); go_simp; with_reducible rfl)); rotate_left; (focus (simp only [Act.put, List.setIfInBounds_toArray, List.set_cons_zero, List.set_cons_succ]; rfl)))
  refine one_ (i := 2) (N := some 13) #[true, true, true, false, false, false] rfl rfl (by kernel_rfl) (by decide) (fun K hK => ?_)
  refine goes_ Try.func12 (by kernel_rfl) rfl #[.agg #[.int .i64 g.f0, .slice A1 g.f1.length c1, .slice A2 g.f2.length c2, .slice A3 g.f3.length c3]] (by rfl) rfl rfl (by (try simp only [List.map_toArray, List.map_cons, List.map_nil]); first | done | rfl) ?_
  refine (check_calls _ g Wd H4.out.2.1.isG (by have := HT.out.2.2.1; omega)).mono ?_
  rintro e W5 ⟨ev, rfl, hev, hb5⟩
  rw [HT.out.2.2.2] at hev
  obtain rfl : ev = .nilIface := hev
  have H5 := Aside0.mk (And.intro (below_step H4.out.1 hb5) (And.intro (H4.out.2.1.below hb5) (And.intro (blk_below H4.out.2.2.1 hb5) (blk_below H4.out.2.2.2 hb5))))
  refine ⟨_, rfl, hK.out _ _ ⟨(blk_cell H5.out.2.2.2 0).trans rfl, (blk_cell H5.out.2.2.2 1).trans rfl, (blk_cell H5.out.2.2.2 2).trans rfl, (blk_cell H5.out.2.2.2 3).trans rfl, trivial⟩ (fun hHeld2 => ?_)⟩
  clear hK K hHeld hb5 H4
  (refine norm_ (a' := ?_) ?_ ?_; rotate_left; focus (show Act.put _ (some 13) _ = _; simp only [Act.put, List.setIfInBounds_toArray, List.set_cons_zero, List.set_cons_succ]; rfl))
  (refine pure_ (i := 3) (N := some 14) (v := ?_) (a' := ?_) #[true, true, true, true, false, false] rfl rfl (by kernel_rfl) (fun _ _ _ h => h) (Or.inl ⟨by rfl, ?_⟩) ?_ ?_; rotate_left; (focus (intro w'_; go_simp; with_reducible rfl)); rotate_left; (focus (simp only [Act.put, List.setIfInBounds_toArray, List.set_cons_zero, List.set_cons_succ]; rfl)))
  refine one_ (i := 4) (N := none) #[true, true, true, true, true, false] rfl rfl (by kernel_rfl) (by decide) (fun K hK => ?_)
  have hs0 : W5.cell? ⟨gs, 0, none⟩ = some (.int .i64 0) := (blk_cell H5.out.2.2.1 0).trans rfl
  have hs1 : W5.cell? ⟨gs, 1, none⟩ = some (.slice none 0 0) := (blk_cell H5.out.2.2.1 1).trans rfl
  have hs2 : W5.cell? ⟨gs, 2, none⟩ = some (.slice none 0 0) := (blk_cell H5.out.2.2.1 2).trans rfl
  have hs3 : W5.cell? ⟨gs, 3, none⟩ = some (.slice none 0 0) := (blk_cell H5.out.2.2.1 3).trans rfl
  have hf0 := blk_frozen H5.out.2.2.1 0
  have hf1 := blk_frozen H5.out.2.2.1 1
  have hf2 := blk_frozen H5.out.2.2.1 2
  have hf3 := blk_frozen H5.out.2.2.1 3
  refine skip_ (w1 := ?_) (by rfl) rfl ?_ ?_
  rotate_left
  · go_simp
    rfl
  have hgg := H5.out.2.2
  have hne : gs ≠ gt := fun e => by
    have h1 := HGT.out
    rw [e] at h1
    exact absurd h1 (Nat.lt_irrefl _)
  obtain ⟨W6, hW6⟩ : ∃ y, y = (((W5.setCell ⟨gs, 0, none⟩ (.int .i64 g.f0)).setCell ⟨gs, 1, none⟩ (.slice A1 g.f1.length c1)).setCell ⟨gs, 2, none⟩ (.slice A2 g.f2.length c2)).setCell ⟨gs, 3, none⟩ (.slice A3 g.f3.length c3) := ⟨_, rfl⟩
  rw [← hW6]
  have hs6 : W6.heap[gs]? = some (.cells #[.int .i64 g.f0, .slice A1 g.f1.length c1, .slice A2 g.f2.length c2, .slice A3 g.f3.length c3] 28 (0, 0)) := by
    rw [hW6]
    simpa using blk_set (blk_set (blk_set (blk_set hgg.1 0 (.int .i64 g.f0)) 1 (.slice A1 g.f1.length c1)) 2 (.slice A2 g.f2.length c2)) 3 (.slice A3 g.f3.length c3)
  have ht6 : W6.heap[gt]? = some (.cells #[.int .i64 g.f0, .slice A1 g.f1.length c1, .slice A2 g.f2.length c2, .slice A3 g.f3.length c3] 28 (0, 0)) := by
    rw [hW6]
    exact (Below.heap_setCell _ ⟨gs, 3, none⟩ _ gt (Ne.symm hne)).trans ((Below.heap_setCell _ ⟨gs, 2, none⟩ _ gt (Ne.symm hne)).trans ((Below.heap_setCell _ ⟨gs, 1, none⟩ _ gt (Ne.symm hne)).trans ((Below.heap_setCell _ ⟨gs, 0, none⟩ _ gt (Ne.symm hne)).trans hgg.2)))
  have hb6 : Below W.heap.size W W6 := by
    rw [hW6]
    exact (((H5.out.1.setCell (p := ⟨gs, 0, none⟩) HGS.out _).setCell (p := ⟨gs, 1, none⟩) HGS.out _).setCell (p := ⟨gs, 2, none⟩) HGS.out _).setCell (p := ⟨gs, 3, none⟩) HGS.out _
  have hc6 : CopyOf 6 W W6 (.agg #[.int .i64 g.f0, .slice A1 g.f1.length c1, .slice A2 g.f2.length c2, .slice A3 g.f3.length c3]) g := by
    rw [hW6]
    exact CopyOf.lower ((((H5.out.2.1.setG HGW.out.2).setG HGW.out.2).setG HGW.out.2).setG HGW.out.2) HGW.out.1
  refine hK.out _ _ ⟨(blk_cell ht6 0).trans rfl, (blk_cell ht6 1).trans rfl, (blk_cell ht6 2).trans rfl, (blk_cell ht6 3).trans rfl, trivial⟩ (fun hHeld => ?_)
  clear hK K hHeld2 hs0 hs1 hs2 hs3 hf0 hf1 hf2 hf3 hgg hne
  have HF := Aside0.mk (And.intro hs6 (And.intro hb6 hc6))
  clear hs6 ht6 hb6 hc6 hW6 H5
  (refine pure_ (i := 5) (N := some 3) (v := ?_) (a' := ?_) #[true, true, true, true, true, true] rfl rfl (by kernel_rfl) (fun _ _ _ h => h) (Or.inl ⟨by rfl, ?_⟩) ?_ ?_; rotate_left; (focus (intro w'_; go_simp; with_reducible rfl)); rotate_left; (focus (simp only [Act.put, List.setIfInBounds_toArray, List.set_cons_zero, List.set_cons_succ]; rfl)))
  refine done_ (by kernel_rfl) ?_
  clear hHeld
  go_wp2_with fail
  refine bodyPost_ret (results_geom2 (a := 2) (c := 3) (by rfl) _ _ (by rfl) (by simpa using HF.out.1)) rfl ?_
  rw [← HGE.out]
  exact ⟨_, rfl, HF.out.2.2, HF.out.2.1⟩
end Go.Proofs.Ytiiolhnpnlmkjaa.Tree
namespace Go.Proofs.Ytiiolhnpnlmkjaa.Tree
open Go.RowKit Go.Proofs.Ytiiolhnpnlmkjaa.PWkbPrints Go.Proofs.YtiiolhnpnlmkjaaW.PrintWords Go.Proofs.YtiiolhnpnlmkjaaW.PrintLast Go.Proofs.YtiiolhnpnlmkjaaW.PrintMore
theorem st_self (X : List Int) : St X 0 X := ⟨[], by simp⟩
theorem parsed_print (os : List Bool) (g : Ge) (depth most : Int) (hG : AllG g 1 0) (hbk : g.bulk ≤ 2097152) (hd : ∀ x ∈ nodes g 1 0, x.f1 ≤ min depth 256) (hm : ((geoB os g 0).length : Int) ≤ min (max most 0) 65536) :
    parsedR (geoB os g 0) depth most = .ok (g, ords os 0 (cntG g)) := by
  unfold parsedR
  rw [if_neg (by omega)]
  have h := (geom2 (c := geoB os g 0) (k := (geoB os g 0).length) (b := geoB os g 0) (List.take_length).symm (Nat.le_refl _) os (min depth 256) g.bulk g 1 0 0 0 257 (Nat.le_refl _) (by omega) hG hd (by omega) (.inl rfl) (st_self _) (Nat.zero_le _)).y (by omega)
  rw [h]
  dsimp only
  rw [if_neg (by omega)]
theorem hi_fold : ∀ (l : List It) (m : Int), (∀ x ∈ l, x.f1 ≤ l.foldl (fun m x => if m < x.f1 then x.f1 else m) m) ∧ m ≤ l.foldl (fun m x => if m < x.f1 then x.f1 else m) m ∧ (l.foldl (fun m x => if m < x.f1 then x.f1 else m) m = m ∨ ∃ x ∈ l, l.foldl (fun m x => if m < x.f1 then x.f1 else m) m = x.f1) := by
  intro l
  induction l with
  | nil => intro m; exact ⟨by simp, Int.le_refl _, .inl rfl⟩
  | cons x l ih =>
    intro m
    rw [List.foldl_cons]
    obtain ⟨h1, h2, h3⟩ := ih (if m < x.f1 then x.f1 else m)
    have hm : m ≤ (if m < x.f1 then x.f1 else m) ∧ x.f1 ≤ (if m < x.f1 then x.f1 else m) := by split <;> omega
    refine ⟨fun y hy => ?_, by omega, ?_⟩
    · rcases List.mem_cons.1 hy with rfl | hy
      · omega
      · exact h1 y hy
    · rcases h3 with h3 | ⟨y, hy, h3⟩
      · rw [h3]
        by_cases c : m < x.f1
        · rw [if_pos c]
          exact .inr ⟨x, List.mem_cons_self, rfl⟩
        · rw [if_neg c]
          exact .inl rfl
      · exact .inr ⟨y, List.mem_cons_of_mem _ hy, h3⟩
theorem depth_top (g : Ge) : (∀ x ∈ nodes g 1 0, x.f1 ≤ depthOf g) ∧ (∃ x ∈ nodes g 1 0, depthOf g = x.f1) ∧ 1 ≤ depthOf g := by
  obtain ⟨h1, h2, h3⟩ := hi_fold (nodes g 1 0) 0
  have h0 : (⟨g, 1, 0⟩ : It) ∈ nodes g 1 0 := by rw [nodes_eq]; exact List.mem_cons_self ..
  have h4 : (1 : Int) ≤ depthOf g := h1 _ h0
  refine ⟨h1, ?_, h4⟩
  rcases h3 with h3 | h3
  · have : depthOf g = 0 := h3
    omega
  · exact h3
theorem parse_ok (A : Option Addr) (c : Nat) (b : List Int) (depth most : Int) (W : World) (g : Ge) (os : List Bool) (hC : kB.C W A b.length b) (hc : b.length ≤ c) (hl : b.length ≤ 1048576) (h : parsedR b depth most = .ok (g, os)) :
    Calls Try.prog 9 #[.slice A b.length c, .int .i64 depth, .int .i64 most] W fun e W' => ∃ A1 c1 A2 c2 A3 c3, e = .returned (.tuple #[.agg #[.int .i64 g.f0, .slice A1 g.f1.length c1, .slice A2 g.f2.length c2, .slice A3 g.f3.length c3], .nilIface]) ∧
      CopyOf 257 W W' (.agg #[.int .i64 g.f0, .slice A1 g.f1.length c1, .slice A2 g.f2.length c2, .slice A3 g.f3.length c3]) g ∧ Below W.heap.size W W' := by
  refine (parse_calls A c b depth most W hC hc hl).mono ?_
  rintro e W' ⟨u, ev, rfl, hb, -, hO⟩
  obtain ⟨rfl, hcp⟩ := hO _ h
  obtain ⟨A1, c1, A2, c2, A3, c3, rfl, _⟩ := hcp.isG
  exact ⟨A1, c1, A2, c2, A3, c3, rfl, hcp, hb⟩
end Go.Proofs.Ytiiolhnpnlmkjaa.Tree
namespace Go.Proofs.Ytiiolhnpnlmkjaa.Tree
open Go.RowKit Go.Proofs.Ytiiolhnpnlmkjaa.PWkbPrints Go.Proofs.YtiiolhnpnlmkjaaW.PrintWords Go.Proofs.YtiiolhnpnlmkjaaW.PrintLast Go.Proofs.YtiiolhnpnlmkjaaW.PrintMore
attribute [local go_sem] Oper.semAt_some max2_int max_two min2_int min_two
/-- Between two worlds two blocks are changed alone. -/
structure Kw (Ws W : World) (gf gb : Nat) : Prop where
  s : Ws.heap.size ≤ W.heap.size
  k : ∀ j, j < Ws.heap.size → j ≠ gf → j ≠ gb → W.heap[j]? = Ws.heap[j]?
theorem Kw.refl (W : World) (gf gb : Nat) : Kw W W gf gb := ⟨Nat.le_refl _, fun _ _ _ _ => rfl⟩
theorem Kw.trans {W1 W2 W3 : World} {gf gb : Nat} (h : Kw W1 W2 gf gb) (k : Kw W2 W3 gf gb) : Kw W1 W3 gf gb :=
  ⟨Nat.le_trans h.s k.s, fun j hj h1 h2 => (k.k j (Nat.lt_of_lt_of_le hj h.s) h1 h2).trans (h.k j hj h1 h2)⟩
theorem Kw.below {W1 W2 W3 : World} {gf gb : Nat} (h : Kw W1 W2 gf gb) (hb : Below W2.heap.size W2 W3) : Kw W1 W3 gf gb :=
  ⟨Nat.le_trans h.s hb.size, fun j hj h1 h2 => (hb.block j (Nat.lt_of_lt_of_le hj h.s)).trans (h.k j hj h1 h2)⟩
theorem Kw.set {W1 W2 : World} {gf gb : Nat} (h : Kw W1 W2 gf gb) (p : Addr) (hp : p.block = gf ∨ p.block = gb) (v : Value) : Kw W1 (W2.setCell p v) gf gb :=
  ⟨by simpa using h.s, fun j hj h1 h2 => (Below.heap_setCell W2 p v j (by rcases hp with e | e <;> rw [e] <;> assumption)).trans (h.k j hj h1 h2)⟩
structure Fi (w0 Ws W : World) (gf gb cb : Nat) (B : List Int) (pq : Nat) : Prop where
  c : W.heap[gf]? = some (.cells #[.slice (some ⟨gb, 0, none⟩) B.length cb, .int .i64 (pq : Int)] 47 (0, 0))
  r : kB.R 5 W w0.heap.size (fun _ => True) (.slice (some ⟨gb, 0, none⟩) B.length cb) B
  h : w0.heap.size ≤ gf
  K : Below w0.heap.size w0 W
  k : Kw Ws W gf gb
section
variable {w0 Ws W W' : World} {gf gb cb : Nat} {B : List Int} {pq : Nat}
theorem Fi.ne (h : Fi w0 Ws W gf gb cb B pq) : gf ≠ gb := fun e => by
  obtain ⟨cs, hcs⟩ := Kd.R_typed h.r gb rfl
  have := h.c
  rw [e, hcs] at this
  injection this with this
  injection this with _ this
  exact absurd this (by decide)
theorem Fi.below (h : Fi w0 Ws W gf gb cb B pq) (hb : Below W.heap.size W W') : Fi w0 Ws W' gf gb cb B pq := ⟨blk_below h.c hb, Kd.R_below h.r hb, h.h, below_step h.K hb, h.k.below hb⟩
end
theorem Fi.here {w0 Ws W : World} {gf gb cb : Nat} {B : List Int} {a : Nat} (h : Fi w0 Ws W gf gb cb B a) : Fi w0 W W gf gb cb B a := ⟨h.c, h.r, h.h, h.K, Kw.refl _ _ _⟩
end Go.Proofs.Ytiiolhnpnlmkjaa.Tree
namespace Go.Proofs.Ytiiolhnpnlmkjaa.Tree
open Go.RowKit Go.Proofs.Ytiiolhnpnlmkjaa.PWkbPrints Go.Proofs.YtiiolhnpnlmkjaaW.PrintWords Go.Proofs.YtiiolhnpnlmkjaaW.PrintLast Go.Proofs.YtiiolhnpnlmkjaaW.PrintMore
end Go.Proofs.Ytiiolhnpnlmkjaa.Tree
namespace Go.Proofs.Ytiiolhnpnlmkjaa.PCt
open Go.RowKit Go.Proofs.YtiiolhnpnlmkjaaW.PrintWords Go.Proofs.YtiiolhnpnlmkjaaW.PrintLast Go.Proofs.YtiiolhnpnlmkjaaW.PrintMore Go.Proofs.Ytiiolhnpnlmkjaa.Tree
attribute [local go_sem] max2_int min2_int max_two min_two max_three min_three max_four min_four

theorem info5 : (Try.prog.info? 5).map (fun i => (i.zero, i.size, i.bytes)) = some (some (.int .u8 0), 1, 1) := by kernel_rfl
theorem info65 : (Try.prog.info? 65).map (fun i => (i.zero, i.size, i.bytes)) = some (some (.agg #[(.int .u64 0), (.int .u64 0)]), 2, 16) := by kernel_rfl
def plumblaw17_cut.l0 : Nat → List Int → List Int → Int → Option (List Int)
  | 0, _, _, _ => none
  | k + 1, x0, x3, x4 => if x4 < (x0.length : Int) then (if x4 < 1500 then (if 0 ≤ x4 then (if x3.length < 140737488355328 then (plumblaw17_cut.l0 k x0 (x3 ++ [rd x0 x4]) (wrap64 (x4 + 1))) else (none)) else (none)) else (some x3)) else (some x3)
def plumblaw17_cut.f (k : Nat) (l0 : List Int) : Option (List Int) := plumblaw17_cut.l0 k l0 ([] : List Int) 0
theorem plumblaw17_cut.mono_l : ∀ k, (∀ y0 y1 y2, LeO (plumblaw17_cut.l0 k y0 y1 y2) (plumblaw17_cut.l0 (k + 1) y0 y1 y2))
  | 0 => fun _ _ _ r h => by simp [plumblaw17_cut.l0] at h
  | k + 1 => by
    have ih0 := plumblaw17_cut.mono_l k
    · intro y0 y1 y2
      unfold plumblaw17_cut.l0
      repeat' first
      | (with_reducible exact ih0 _ _ _)
      | (with_reducible exact LeO.refl _)
      | (with_reducible exact LeO.none _)
      | (with_reducible refine LeO.ite ?_ ?_)
      | (with_reducible refine LeO.bind ?_ (fun _ => ?_))
      | exact ih0 _ _ _
      | exact LeO.none _
      | refine LeO.ite ?_ ?_
      | refine LeO.bind ?_ (fun _ => ?_)
theorem plumblaw17_cut.mono : ∀ a0 k, LeO (plumblaw17_cut.f k a0) (plumblaw17_cut.f (k + 1) a0) := by
  intro a0 k
  have ih0 := plumblaw17_cut.mono_l k
  unfold plumblaw17_cut.f
  repeat' first
      | (with_reducible exact ih0 _ _ _)
      | (with_reducible exact LeO.refl _)
      | (with_reducible exact LeO.none _)
      | (with_reducible refine LeO.ite ?_ ?_)
      | (with_reducible refine LeO.bind ?_ (fun _ => ?_))
      | exact ih0 _ _ _
      | exact LeO.none _
      | refine LeO.ite ?_ ?_
      | refine LeO.bind ?_ (fun _ => ?_)
set_option maxHeartbeats 8000000 in
set_option maxRecDepth 100000 in
theorem plumblaw17_cut.calls (k : Nat) (A0 : Option Addr) (c0 : Nat) (l0 : List Int) (r : List Int) (w : World) (hr0 : Kd.C (Kd.int .u8) w A0 l0.length l0) (hc0 : l0.length ≤ c0) (h : plumblaw17_cut.f k l0 = some r) :
    Calls Try.prog 8 #[.slice A0 l0.length c0] w fun e w' => ∃ v0_ : Value, e = .returned (v0_) ∧ Kd.R (Kd.int .u8) 5 w' w.heap.size (fun _ => True) v0_ r ∧ Below w.heap.size w w' := by
  have HR0 := Aside0.mk hr0
  have HC0 := Aside0.mk hc0
  clear hr0 hc0
  have HB := Aside0.mk (Below.refl w.heap.size w)
  have H : (plumblaw17_cut.l0 k l0 ([] : List Int) 0) = some r := h
  clear h
  have H' := Aside0.mk H
  clear H
  go_enter Try.func8, Try.ntmps8
  go_wp2
  go_loopg [3, 4] k (fun kq v3 v4 w' => ∃ (x3_1 : List Int) (x4_1 : Int), v4 = .int .i64 x4_1 ∧ Aside0 (plumblaw17_cut.l0 kq l0 x3_1 x4_1 = some r) ∧ Aside0 (kq ≤ k) ∧ Aside0 (Kd.R (Kd.int .u8) 5 w' w.heap.size (fun _ => True) v3 x3_1) ∧ Aside0 (Below w.heap.size w w'))
  case atStart => exact ⟨(([] : List Int)), (0), (by first | rfl | (simp; done) | (simp [*]; done)), H', ⟨Nat.le_refl _⟩, ⟨by first | exact Kd.R_nil _ _ _ _ _ | exact Kd.N_nil _ _ _ _ _ | exact Kd.V_nil _ _ _ _ _ | exact Kd.Q_nil _ _ _ _ _ | exact Kd.S_nil _ _ _ _ _⟩, ⟨by repeat (first | (with_reducible first | exact HB.out | apply below_alloc | apply pw_below_drewN | apply below_drew1) | exact HB.out)⟩⟩
  case round =>
    clear H'
    obtain ⟨x3_1, x4_1, rfl, HA, HK1, HO_3, HB⟩ := hrel
    cases gk with
    | zero => exact absurd HA.out (by simp [plumblaw17_cut.l0])
    | succ k1 =>
      have H := HA.out
      clear HA
      simp only [plumblaw17_cut.l0] at H
      by_cases c2 : x4_1 < (l0.length : Int)
      · rw [if_pos c2] at H
        have c2b0 : decide (x4_1 < (l0.length : Int)) = true := decide_eq_true c2
        clear c2
        by_cases c3 : x4_1 < 1500
        · rw [if_pos c3] at H
          have c3b0 : decide (x4_1 < 1500) = true := decide_eq_true c3
          clear c3
          by_cases c4 : 0 ≤ x4_1
          · rw [if_pos c4] at H
            have c4b0 : decide (0 ≤ x4_1) = true := decide_eq_true c4
            clear c4
            by_cases c5 : x3_1.length < 140737488355328
            · rw [if_pos c5] at H
              have LMc5 := Aside0.mk c5
              clear c5
              obtain ⟨y188, hy188⟩ : ∃ y_ : List Int, y_ = (x3_1 ++ [rd l0 x4_1]) := ⟨_, rfl⟩
              replace H : (plumblaw17_cut.l0 k1 l0 y188 (wrap64 (x4_1 + 1))) = some r := by first | (rw [hy188]; with_reducible exact H) | (have H2_ := (Option.bind_some _ _).symm.trans H; rw [hy188]; with_reducible exact H2_) | (have H2_ := (Option.bind_some _ _).symm.trans H; with_reducible exact H2_) | with_reducible exact H | (rw [hy188]; exact H) | exact H
              have Ny188 := Aside0.mk hy188
              clear hy188
              have H' := Aside0.mk H
              clear H
              have p187 : 0 ≤ (x4_1 : Int) := of_decide_eq_true (by first | (with_reducible assumption) | assumption)
              have q187 : x4_1 < (l0.length : Int) := of_decide_eq_true (by first | (with_reducible assumption) | assumption)
              obtain ⟨ad187, e187, hx187_0⟩ := Kd.at_int HR0.out x4_1 p187 q187
              cases e187
              replace hx187_0 := (HB.out.cell (World.block_lt_of_cell? w _ hx187_0)).trans hx187_0
              replace p187 := eq_true p187
              replace q187 := eq_true q187
              go_wp2_with (first | ((with_reducible refine gate_builtin (b := .append) (xs := #[.tmp 15, .tmp 20]) rfl ?_); at_builtin; refine Kd.R_append (Kd.int .u8) (w0 := w) w.heap.size rfl (.tmp 15) (.tmp 20) 23 5 (.int .u8 0) 1 rfl Try.underlying23 info5 rfl (by decide) (by omega) u3 x3_1 (rd l0 x4_1) [.int .u8 (rd l0 x4_1)] (fun _ => True) (fun _ => False) rfl rfl ?aP (fun _ hk => hk.elim) ?aF ?aO ?aB ?aS ?aL ?_; (case aP => exact rfl); (case aB => exact (by repeat (first | (with_reducible first | exact HB.out | apply below_alloc | apply pw_below_drewN | apply below_drew1) | exact HB.out))); (case aF => exact (fun _ _ => trivial)); (case aO => exact (by (with_reducible repeat (first | apply Kd.R_alloc | apply Kd.R_drewN | apply Kd.R_drew)); exact HO_3.out)); (case aS => exact (below_size (by repeat (first | (with_reducible first | exact HB.out | apply below_alloc | apply pw_below_drewN | apply below_drew1) | exact HB.out)))); (case aL => have := LMc5.out; omega); intro v189 w6 ho hb hg hat; rw [← Ny188.out] at ho; have n0_ := Aside0.mk (hb); have n1_ := Aside0.mk (ho); clear HB; clear HO_3; have HB := n0_; have HO190 := n1_; clear n0_ n1_; clear ho hb hg hat))
              go_roundg k1
              case measure => have := HK1.out; omega
              case rel => exact ⟨(y188), (wrap64 (x4_1 + 1)), (by first | rfl | (simp; done) | (simp [*]; done)), H', ⟨by have := HK1.out; omega⟩, ⟨by (with_reducible repeat (first | apply Kd.R_alloc | apply Kd.R_drewN | apply Kd.R_drew)); exact HO190.out⟩, ⟨by repeat (first | (with_reducible first | exact HB.out | apply below_alloc | apply pw_below_drewN | apply below_drew1) | exact HB.out)⟩⟩
            · rw [if_neg c5] at H
              exact absurd H (by simp)
          · rw [if_neg c4] at H
            exact absurd H (by simp)
        · rw [if_neg c3] at H
          have c3b0 : decide (x4_1 < 1500) = false := decide_eq_false c3
          clear c3
          obtain rfl := Option.some.inj H
          go_wp2
          go_ret
          exact ⟨_, by first | rfl | (simp [errW_none, errW_some] <;> rfl) | (simp [*, errW_none, errW_some] <;> rfl), by (with_reducible repeat (first | apply Kd.R_alloc | apply Kd.R_drewN | apply Kd.R_drew)); exact HO_3.out, by repeat (first | (with_reducible first | exact HB.out | apply below_alloc | apply pw_below_drewN | apply below_drew1) | exact HB.out)⟩
      · rw [if_neg c2] at H
        have c2b0 : decide (x4_1 < (l0.length : Int)) = false := decide_eq_false c2
        clear c2
        obtain rfl := Option.some.inj H
        go_wp2
        go_ret
        exact ⟨_, by first | rfl | (simp [errW_none, errW_some] <;> rfl) | (simp [*, errW_none, errW_some] <;> rfl), by (with_reducible repeat (first | apply Kd.R_alloc | apply Kd.R_drewN | apply Kd.R_drew)); exact HO_3.out, by repeat (first | (with_reducible first | exact HB.out | apply below_alloc | apply pw_below_drewN | apply below_drew1) | exact HB.out)⟩

-- NOT PRINTED: function 10 (wkb_Orders)

-- NOT PRINTED: function 13 (plumblaw17_Finder_walk)


end Go.Proofs.Ytiiolhnpnlmkjaa.PCt
namespace Go.Proofs.Ytiiolhnpnlmkjaa.Tree
open Go.RowKit Go.Proofs.Ytiiolhnpnlmkjaa.PWkbPrints Go.Proofs.YtiiolhnpnlmkjaaW.PrintWords Go.Proofs.YtiiolhnpnlmkjaaW.PrintLast Go.Proofs.YtiiolhnpnlmkjaaW.PrintMore Go.Proofs.Ytiiolhnpnlmkjaa.PCt
end Go.Proofs.Ytiiolhnpnlmkjaa.Tree
namespace Go.Proofs.Ytiiolhnpnlmkjaa.Tree
open Go.RowKit Go.Proofs.Ytiiolhnpnlmkjaa.PWkbPrints Go.Proofs.YtiiolhnpnlmkjaaW.PrintWords Go.Proofs.YtiiolhnpnlmkjaaW.PrintLast Go.Proofs.YtiiolhnpnlmkjaaW.PrintMore
theorem cnt_nodes (g : Ge) : ∀ lvl o : Int, AllG g lvl o → (nodes g lvl o).length = cntG g := by
  induction g using Ge.ind with
  | h g ih =>
    intro lvl o hG
    have hs := shaped_all hG.here.s
    have hp : ∀ l : List Ge, (∀ p ∈ l, p ∈ g.f3) → (nodesL l (lvl + 1) g.f0).length = cntL l := by
      intro l
      induction l with
      | nil => intro _; rfl
      | cons p l ihl =>
        intro hl
        rw [nodesL, cntL, List.length_append, ih p (hl p (by simp)) _ _ (hG.part (hl p (by simp))), ihl (fun q hq => hl q (by simp [hq]))]
    rw [nodes_eq, List.length_cons, hp g.f3 (fun _ h => h), cntG_eq]
    split
    · rename_i hk
      rw [hs.2.2.2.2.1 (by omega)]
      rfl
    · omega
theorem ords_get (os : List Bool) : ∀ (m n k : Nat), k < m → (ords os n m).getD k false = ordAt os (n + k) := by
  intro m
  induction m with
  | zero => intro n k h; omega
  | succ m ih =>
    intro n k h
    rw [ords]
    cases k with
    | zero => rfl
    | succ k => rw [List.getD_cons_succ, ih (n + 1) k (by omega), show n + 1 + k = n + (k + 1) from by omega]
theorem bool_blk1 {W : World} {g : Nat} {a : Bool} (h : W.heap[g]? = some (.cells #[.bool a] 4 (0, 0))) : Kd.bool.C W (some ⟨g, 0, none⟩) 1 [a] := by
  refine ⟨rfl, by decide, fun _ => ⟨_, rfl, fun i x hi => ?_⟩⟩
  match i with
  | 0 =>
    simp at hi
    subst hi
    refine ⟨[.bool a], rfl, rfl, fun j u hj => ?_⟩
    match j with
    | 0 =>
      simp at hj
      subst hj
      exact (blk_cell h 0).trans rfl
    | j + 1 => simp at hj
  | i + 1 => simp at hi
/-- A tree that is written is read again as it was, under just the limits that it needs. -/
theorem print_read (os : List Bool) (g : Ge) (hG : AllG g 1 0) (hl : ∀ x ∈ nodes g 1 0, x.f1 ≤ 6) (hbk : g.bulk ≤ 16384) (hn : (geoB os g 0).length ≤ 65536) :
    parsedR (geoB os g 0) (depthOf g) (geoB os g 0).length = .ok (g, ords os 0 (cntG g)) ∧ parsedR (geoB os g 0) 256 65536 = .ok (g, ords os 0 (cntG g)) := by
  refine ⟨parsed_print os g _ _ hG (by omega) (fun x hx => ?_) (by omega), parsed_print os g _ _ hG (by omega) (fun x hx => ?_) (by omega)⟩
  · have h1 := (depth_top g).1 x hx
    have h2 := hl x hx
    omega
  · have h2 := hl x hx
    omega
end Go.Proofs.Ytiiolhnpnlmkjaa.Tree
namespace Go.Proofs.Ytiiolhnpnlmkjaa.PWkbPrints
open Go.RowKit Go.Proofs.YtiiolhnpnlmkjaaW.PrintWords Go.Proofs.YtiiolhnpnlmkjaaW.PrintLast Go.Proofs.YtiiolhnpnlmkjaaW.PrintMore
attribute [local go_sem] max2_int min2_int max_two min_two max_three min_three max_four min_four

mutual
def wkb_size.l0 : Nat → Int → List (List (S65)) → Int → Int → Option (Int)
  | 0, _, _, _, _ => none
  | k + 1, x3, x19, x20, x21 => if x21 < x20 then (if 0 ≤ x21 then (if x21 < (x19.length : Int) then (wkb_size.l0 k (wrap64 (x3 + (wrap64 (4 + (wrap64 (16 * ((rd_L2 x19 x21).length : Int))))))) x19 x20 (wrap64 (x21 + 1))) else (none)) else (none)) else (some x3)
def wkb_size.l1 : Nat → Int → List (S28) → Int → Int → Option (Int)
  | 0, _, _, _, _ => none
  | k + 1, x3, x41, x42, x43 => if x43 < x42 then (if 0 ≤ x43 then (if x43 < (x41.length : Int) then ((wkb_size.f k ((rd_T28 x41 x43).f0) ((rd_T28 x41 x43).f1) ((rd_T28 x41 x43).f2) ((rd_T28 x41 x43).f3)).bind fun t193 => (wkb_size.l1 k (wrap64 (x3 + t193)) x41 x42 (wrap64 (x43 + 1)))) else (none)) else (none)) else (some x3)
def wkb_size.f : Nat → Int → List (S65) → List (List (S65)) → List (S28) → Option (Int)
  | 0, _, _, _, _ => none
  | k + 1, a0_0, l0_1, l0_2, l0_3 => if a0_0 = 1 then (some (5 + 16)) else (if a0_0 = 3 then (wkb_size.l0 k (5 + 4) l0_2 (l0_2.length : Int) 0) else (wkb_size.l1 k (wrap64 (5 + (wrap64 (4 + (wrap64 (16 * (l0_1.length : Int))))))) l0_3 (l0_3.length : Int) 0))
end
theorem wkb_size.mono_l : ∀ k, (∀ y0 y1 y2 y3, LeO (wkb_size.f k y0 y1 y2 y3) (wkb_size.f (k + 1) y0 y1 y2 y3)) ∧ (∀ y0 y1 y2 y3, LeO (wkb_size.l0 k y0 y1 y2 y3) (wkb_size.l0 (k + 1) y0 y1 y2 y3)) ∧ (∀ y0 y1 y2 y3, LeO (wkb_size.l1 k y0 y1 y2 y3) (wkb_size.l1 (k + 1) y0 y1 y2 y3))
  | 0 => ⟨fun _ _ _ _ r h => by simp [wkb_size.f] at h, fun _ _ _ _ r h => by simp [wkb_size.l0] at h, fun _ _ _ _ r h => by simp [wkb_size.l1] at h⟩
  | k + 1 => by
    obtain ⟨ih0, ih1, ih2⟩ := wkb_size.mono_l k
    refine ⟨?_, ?_, ?_⟩
    · intro y0 y1 y2 y3
      unfold wkb_size.f
      repeat' first
      | (with_reducible exact ih0 _ _ _ _)
      | (with_reducible exact ih1 _ _ _ _)
      | (with_reducible exact ih2 _ _ _ _)
      | (with_reducible exact LeO.refl _)
      | (with_reducible exact LeO.none _)
      | (with_reducible refine LeO.ite ?_ ?_)
      | (with_reducible refine LeO.bind ?_ (fun _ => ?_))
      | exact ih0 _ _ _ _
      | exact ih1 _ _ _ _
      | exact ih2 _ _ _ _
      | exact LeO.none _
      | refine LeO.ite ?_ ?_
      | refine LeO.bind ?_ (fun _ => ?_)
    · intro y0 y1 y2 y3
      unfold wkb_size.l0
      repeat' first
      | (with_reducible exact ih0 _ _ _ _)
      | (with_reducible exact ih1 _ _ _ _)
      | (with_reducible exact ih2 _ _ _ _)
      | (with_reducible exact LeO.refl _)
      | (with_reducible exact LeO.none _)
      | (with_reducible refine LeO.ite ?_ ?_)
      | (with_reducible refine LeO.bind ?_ (fun _ => ?_))
      | exact ih0 _ _ _ _
      | exact ih1 _ _ _ _
      | exact ih2 _ _ _ _
      | exact LeO.none _
      | refine LeO.ite ?_ ?_
      | refine LeO.bind ?_ (fun _ => ?_)
    · intro y0 y1 y2 y3
      unfold wkb_size.l1
      repeat' first
      | (with_reducible exact ih0 _ _ _ _)
      | (with_reducible exact ih1 _ _ _ _)
      | (with_reducible exact ih2 _ _ _ _)
      | (with_reducible exact LeO.refl _)
      | (with_reducible exact LeO.none _)
      | (with_reducible refine LeO.ite ?_ ?_)
      | (with_reducible refine LeO.bind ?_ (fun _ => ?_))
      | exact ih0 _ _ _ _
      | exact ih1 _ _ _ _
      | exact ih2 _ _ _ _
      | exact LeO.none _
      | refine LeO.ite ?_ ?_
      | refine LeO.bind ?_ (fun _ => ?_)
theorem wkb_size.mono : ∀ a0 a1 a2 a3 k, LeO (wkb_size.f k a0 a1 a2 a3) (wkb_size.f (k + 1) a0 a1 a2 a3) := by
  intro a0 a1 a2 a3 k
  obtain ⟨ih0, ih1, ih2⟩ := wkb_size.mono_l k
  exact ih0 a0 a1 a2 a3
set_option maxHeartbeats 8000000 in
set_option maxRecDepth 100000 in
theorem wkb_size.calls (k : Nat) : ∀ (a0_0 : Int) (A0_1 : Option Addr) (c0_1 : Nat) (l0_1 : List (S65)) (A0_2 : Option Addr) (c0_2 : Nat) (l0_2 : List (List (S65))) (A0_3 : Option Addr) (c0_3 : Nat) (l0_3 : List (S28)) (r : Int) (w : World) (hr0_1 : Kd.C k65 w A0_1 l0_1.length l0_1) (hc0_1 : l0_1.length ≤ c0_1) (hr0_2 : Kd.C (Kd.slice 65 k65) w A0_2 l0_2.length l0_2) (hc0_2 : l0_2.length ≤ c0_2) (hr0_3 : Kd.C k28 w A0_3 l0_3.length l0_3) (hc0_3 : l0_3.length ≤ c0_3) (h : wkb_size.f k a0_0 l0_1 l0_2 l0_3 = some r),
    Calls Try.prog 28 #[.agg #[.int .i64 a0_0, .slice A0_1 l0_1.length c0_1, .slice A0_2 l0_2.length c0_2, .slice A0_3 l0_3.length c0_3]] w fun e w' => e = .returned (.int .i64 r) ∧ Below w.heap.size w w' := by
  induction k using Nat.strongRecOn with
  | _ k ih =>
  intro a0_0 A0_1 c0_1 l0_1 A0_2 c0_2 l0_2 A0_3 c0_3 l0_3 r w hr0_1 hc0_1 hr0_2 hc0_2 hr0_3 hc0_3 h
  cases k with
  | zero => exact absurd h (by simp [wkb_size.f])
  | succ k =>
  simp only [wkb_size.f] at h
  have hu28 := Try.underlying28
  have HR0_1 := Aside0.mk hr0_1
  have HC0_1 := Aside0.mk hc0_1
  clear hr0_1 hc0_1
  have HR0_2 := Aside0.mk hr0_2
  have HC0_2 := Aside0.mk hc0_2
  clear hr0_2 hc0_2
  have HR0_3 := Aside0.mk hr0_3
  have HC0_3 := Aside0.mk hc0_3
  clear hr0_3 hc0_3
  have HB := Aside0.mk (Below.refl w.heap.size w)
  have H : (if a0_0 = 1 then (some (5 + 16)) else (if a0_0 = 3 then (wkb_size.l0 k (5 + 4) l0_2 (l0_2.length : Int) 0) else (wkb_size.l1 k (wrap64 (5 + (wrap64 (4 + (wrap64 (16 * (l0_1.length : Int))))))) l0_3 (l0_3.length : Int) 0))) = some r := h
  clear h
  by_cases c2 : a0_0 = 1
  · rw [if_pos c2] at H
    have c2b0 : (a0_0 == 1) = true := beq_iff_eq.mpr c2
    have c2b1 : (a0_0 != 1) = false := bne_eq_false_iff_eq.mpr c2
    clear c2
    obtain rfl := Option.some.inj H
    go_enter Try.func28, Try.ntmps28
    go_wp2_with (first | ((with_reducible refine gate_dst (N := 1) rfl ?_); refine box_event ?hg (N := 1) ?hd (cs := #[.int .i64 a0_0, .slice A0_1 l0_1.length c0_1, .slice A0_2 l0_2.length c0_2, .slice A0_3 l0_3.length c0_3]) (t := 28) ?hr ?_; (case hd => rfl); (case hg => rfl); (case hr => first | (go_simp; done) | (go_simp; rfl)); intro gb189 hg w3 hbox hb; have n0_ := Aside0.mk (below_step (by repeat (first | (with_reducible first | exact HB.out | apply below_alloc | apply pw_below_drewN | apply below_drew1) | exact HB.out)) hb); have n1_ := Aside0.mk (hbox); have n2_ := Aside0.mk ((by rw [hg]; exact (below_size (by repeat (first | (with_reducible first | exact HB.out | apply below_alloc | apply pw_below_drewN | apply below_drew1) | exact HB.out))) : w.heap.size ≤ gb189)); have n3_ := Aside0.mk ((by rw [hg]; exact (below_size (by repeat (first | (with_reducible first | exact HB.out | apply below_alloc | apply pw_below_drewN | apply below_drew1) | exact HB.out))) : w.heap.size ≤ gb189)); clear HB; have HB := n0_; have BK189 := n1_; have GW189 := n2_; have GE189 := n3_; clear n0_ n1_ n2_ n3_; clear hb hbox hg; have hcz4_0 : w3.cell? ⟨gb189, 0, none⟩ = some (.int .i64 a0_0) := (blk_cell BK189.out 0).trans rfl; have hcz4_1 : w3.cell? ⟨gb189, 1, none⟩ = some (.slice A0_1 l0_1.length c0_1) := (blk_cell BK189.out 1).trans rfl; have hcz4_2 : w3.cell? ⟨gb189, 2, none⟩ = some (.slice A0_2 l0_2.length c0_2) := (blk_cell BK189.out 2).trans rfl; have hcz4_3 : w3.cell? ⟨gb189, 3, none⟩ = some (.slice A0_3 l0_3.length c0_3) := (blk_cell BK189.out 3).trans rfl; have hfz4_0 := blk_frozen BK189.out 0; have hfz4_1 := blk_frozen BK189.out 1; have hfz4_2 := blk_frozen BK189.out 2; have hfz4_3 := blk_frozen BK189.out 3))
    go_ret
    exact ⟨by first | rfl | (simp [errW_none, errW_some] <;> rfl) | (simp [*, errW_none, errW_some] <;> rfl), by repeat (first | (with_reducible first | exact HB.out | apply below_alloc | apply pw_below_drewN | apply below_drew1 | refine below_set ?_ GE189.out) | exact HB.out)⟩
  · rw [if_neg c2] at H
    have c2b0 : (a0_0 == 1) = false := beq_eq_false_iff_ne.mpr c2
    have c2b1 : (a0_0 != 1) = true := bne_iff_ne.mpr c2
    by_cases c5 : a0_0 = 3
    · rw [if_pos c5] at H
      have c5b0 : (a0_0 == 3) = true := beq_iff_eq.mpr c5
      have c5b1 : (a0_0 != 3) = false := bne_eq_false_iff_eq.mpr c5
      clear c5
      have H' := Aside0.mk H
      clear H
      go_enter Try.func28, Try.ntmps28
      go_wp2_with (first | ((with_reducible refine gate_dst (N := 1) rfl ?_); refine box_event ?hg (N := 1) ?hd (cs := #[.int .i64 a0_0, .slice A0_1 l0_1.length c0_1, .slice A0_2 l0_2.length c0_2, .slice A0_3 l0_3.length c0_3]) (t := 28) ?hr ?_; (case hd => rfl); (case hg => rfl); (case hr => first | (go_simp; done) | (go_simp; rfl)); intro gb189 hg w6 hbox hb; have n0_ := Aside0.mk (below_step (by repeat (first | (with_reducible first | exact HB.out | apply below_alloc | apply pw_below_drewN | apply below_drew1) | exact HB.out)) hb); have n1_ := Aside0.mk (hbox); have n2_ := Aside0.mk ((by rw [hg]; exact (below_size (by repeat (first | (with_reducible first | exact HB.out | apply below_alloc | apply pw_below_drewN | apply below_drew1) | exact HB.out))) : w.heap.size ≤ gb189)); have n3_ := Aside0.mk ((by rw [hg]; exact (below_size (by repeat (first | (with_reducible first | exact HB.out | apply below_alloc | apply pw_below_drewN | apply below_drew1) | exact HB.out))) : w.heap.size ≤ gb189)); clear HB; have HB := n0_; have BK189 := n1_; have GW189 := n2_; have GE189 := n3_; clear n0_ n1_ n2_ n3_; clear hb hbox hg; have hcz7_0 : w6.cell? ⟨gb189, 0, none⟩ = some (.int .i64 a0_0) := (blk_cell BK189.out 0).trans rfl; have hcz7_1 : w6.cell? ⟨gb189, 1, none⟩ = some (.slice A0_1 l0_1.length c0_1) := (blk_cell BK189.out 1).trans rfl; have hcz7_2 : w6.cell? ⟨gb189, 2, none⟩ = some (.slice A0_2 l0_2.length c0_2) := (blk_cell BK189.out 2).trans rfl; have hcz7_3 : w6.cell? ⟨gb189, 3, none⟩ = some (.slice A0_3 l0_3.length c0_3) := (blk_cell BK189.out 3).trans rfl; have hfz7_0 := blk_frozen BK189.out 0; have hfz7_1 := blk_frozen BK189.out 1; have hfz7_2 := blk_frozen BK189.out 2; have hfz7_3 := blk_frozen BK189.out 3))
      go_loopg [3, 21] k (fun kq v3 v21 w' => ∃ (x3_1 : Int) (x21_1 : Int), v3 = .int .i64 x3_1 ∧ v21 = .int .i64 x21_1 ∧ Aside0 (wkb_size.l0 kq x3_1 l0_2 (l0_2.length : Int) x21_1 = some r) ∧ Aside0 (kq ≤ k) ∧ Aside0 (w'.heap[gb189]? = some (.cells #[.int .i64 a0_0, (.slice A0_1 l0_1.length c0_1), (.slice A0_2 l0_2.length c0_2), (.slice A0_3 l0_3.length c0_3)] 28 (0, 0))) ∧ Aside0 (Below w.heap.size w w'))
      case atStart => exact ⟨(5 + 4), (0), (by first | rfl | (simp; done) | (simp [*]; done)), (by first | rfl | (simp; done) | (simp [*]; done)), H', ⟨Nat.le_refl _⟩, ⟨by (with_reducible repeat (first | refine blk_drewN ?_ _ | refine blk_drew ?_ | refine blk_alloc ?_ _)); exact BK189.out⟩, ⟨by repeat (first | (with_reducible first | exact HB.out | apply below_alloc | apply pw_below_drewN | apply below_drew1 | refine below_set ?_ GE189.out) | exact HB.out)⟩⟩
      case round =>
        clear H'
        try clear c2
        try clear c2b0
        try clear c2b1
        try clear p2
        try clear c5
        try clear c5b0
        try clear c5b1
        try clear p6
        try clear hcz4_0
        try clear hcz4_1
        try clear hcz4_2
        try clear hcz4_3
        try clear hcz7_0
        try clear hcz7_1
        try clear hcz7_2
        try clear hcz7_3
        try clear hfz4_0
        try clear hfz4_1
        try clear hfz4_2
        try clear hfz4_3
        try clear hfz7_0
        try clear hfz7_1
        try clear hfz7_2
        try clear hfz7_3
        obtain ⟨x3_1, x21_1, rfl, rfl, HA, HK1, BK189, HB⟩ := hrel
        cases gk with
        | zero => exact absurd HA.out (by simp [wkb_size.l0])
        | succ k1 =>
          have H := HA.out
          clear HA
          simp only [wkb_size.l0] at H
          by_cases c8 : x21_1 < (l0_2.length : Int)
          · rw [if_pos c8] at H
            have c8b0 : decide (x21_1 < (l0_2.length : Int)) = true := decide_eq_true c8
            clear c8
            by_cases c9 : 0 ≤ x21_1
            · rw [if_pos c9] at H
              have c9b0 : decide (0 ≤ x21_1) = true := decide_eq_true c9
              clear c9
              by_cases c10 : x21_1 < (l0_2.length : Int)
              · rw [if_pos c10] at H
                have c10b0 : decide (x21_1 < (l0_2.length : Int)) = true := decide_eq_true c10
                clear c10
                have H' := Aside0.mk H
                clear H
                have p190 : 0 ≤ (x21_1 : Int) := of_decide_eq_true (by first | (with_reducible assumption) | assumption)
                have q190 : x21_1 < (l0_2.length : Int) := of_decide_eq_true (by first | (with_reducible assumption) | assumption)
                obtain ⟨ad190, A190_0, c190_0, e190, hx190_0, hl190_0, hi190_0⟩ := at_L2 HR0_2.out x21_1 p190 q190
                cases e190
                replace hx190_0 := (HB.out.cell (World.block_lt_of_cell? w _ hx190_0)).trans hx190_0
                have HR190_0 := Aside0.mk hi190_0
                have HC190_0 := Aside0.mk hl190_0
                clear hi190_0 hl190_0
                replace p190 := eq_true p190
                replace q190 := eq_true q190
                go_wp2
                go_roundg k1
                case measure => have := HK1.out; omega
                case rel => exact ⟨(wrap64 (x3_1 + (wrap64 (4 + (wrap64 (16 * ((rd_L2 l0_2 x21_1).length : Int))))))), (wrap64 (x21_1 + 1)), (by first | rfl | (simp; done) | (simp [*]; done)), (by first | rfl | (simp; done) | (simp [*]; done)), H', ⟨by have := HK1.out; omega⟩, ⟨by (with_reducible repeat (first | refine blk_drewN ?_ _ | refine blk_drew ?_ | refine blk_alloc ?_ _)); exact BK189.out⟩, ⟨by repeat (first | (with_reducible first | exact HB.out | apply below_alloc | apply pw_below_drewN | apply below_drew1 | refine below_set ?_ GE189.out) | exact HB.out)⟩⟩
              · rw [if_neg c10] at H
                exact absurd H (by simp)
            · rw [if_neg c9] at H
              exact absurd H (by simp)
          · rw [if_neg c8] at H
            have c8b0 : decide (x21_1 < (l0_2.length : Int)) = false := decide_eq_false c8
            clear c8
            obtain rfl := Option.some.inj H
            go_wp2
            go_ret
            exact ⟨by first | rfl | (simp [errW_none, errW_some] <;> rfl) | (simp [*, errW_none, errW_some] <;> rfl), by repeat (first | (with_reducible first | exact HB.out | apply below_alloc | apply pw_below_drewN | apply below_drew1 | refine below_set ?_ GE189.out) | exact HB.out)⟩
    · rw [if_neg c5] at H
      have c5b0 : (a0_0 == 3) = false := beq_eq_false_iff_ne.mpr c5
      have c5b1 : (a0_0 != 3) = true := bne_iff_ne.mpr c5
      have H' := Aside0.mk H
      clear H
      go_enter Try.func28, Try.ntmps28
      go_wp2_with (first | ((with_reducible refine gate_dst (N := 1) rfl ?_); refine box_event ?hg (N := 1) ?hd (cs := #[.int .i64 a0_0, .slice A0_1 l0_1.length c0_1, .slice A0_2 l0_2.length c0_2, .slice A0_3 l0_3.length c0_3]) (t := 28) ?hr ?_; (case hd => rfl); (case hg => rfl); (case hr => first | (go_simp; done) | (go_simp; rfl)); intro gb189 hg w11 hbox hb; have n0_ := Aside0.mk (below_step (by repeat (first | (with_reducible first | exact HB.out | apply below_alloc | apply pw_below_drewN | apply below_drew1) | exact HB.out)) hb); have n1_ := Aside0.mk (hbox); have n2_ := Aside0.mk ((by rw [hg]; exact (below_size (by repeat (first | (with_reducible first | exact HB.out | apply below_alloc | apply pw_below_drewN | apply below_drew1) | exact HB.out))) : w.heap.size ≤ gb189)); have n3_ := Aside0.mk ((by rw [hg]; exact (below_size (by repeat (first | (with_reducible first | exact HB.out | apply below_alloc | apply pw_below_drewN | apply below_drew1) | exact HB.out))) : w.heap.size ≤ gb189)); clear HB; have HB := n0_; have BK189 := n1_; have GW189 := n2_; have GE189 := n3_; clear n0_ n1_ n2_ n3_; clear hb hbox hg; have hcz12_0 : w11.cell? ⟨gb189, 0, none⟩ = some (.int .i64 a0_0) := (blk_cell BK189.out 0).trans rfl; have hcz12_1 : w11.cell? ⟨gb189, 1, none⟩ = some (.slice A0_1 l0_1.length c0_1) := (blk_cell BK189.out 1).trans rfl; have hcz12_2 : w11.cell? ⟨gb189, 2, none⟩ = some (.slice A0_2 l0_2.length c0_2) := (blk_cell BK189.out 2).trans rfl; have hcz12_3 : w11.cell? ⟨gb189, 3, none⟩ = some (.slice A0_3 l0_3.length c0_3) := (blk_cell BK189.out 3).trans rfl; have hfz12_0 := blk_frozen BK189.out 0; have hfz12_1 := blk_frozen BK189.out 1; have hfz12_2 := blk_frozen BK189.out 2; have hfz12_3 := blk_frozen BK189.out 3))
      go_loopg [3, 43] k (fun kq v3 v43 w' => ∃ (x3_1 : Int) (x43_1 : Int), v3 = .int .i64 x3_1 ∧ v43 = .int .i64 x43_1 ∧ Aside0 (wkb_size.l1 kq x3_1 l0_3 (l0_3.length : Int) x43_1 = some r) ∧ Aside0 (kq ≤ k) ∧ Aside0 (w'.heap[gb189]? = some (.cells #[.int .i64 a0_0, (.slice A0_1 l0_1.length c0_1), (.slice A0_2 l0_2.length c0_2), (.slice A0_3 l0_3.length c0_3)] 28 (0, 0))) ∧ Aside0 (Below w.heap.size w w'))
      case atStart => exact ⟨(wrap64 (5 + (wrap64 (4 + (wrap64 (16 * (l0_1.length : Int))))))), (0), (by first | rfl | (simp; done) | (simp [*]; done)), (by first | rfl | (simp; done) | (simp [*]; done)), H', ⟨Nat.le_refl _⟩, ⟨by (with_reducible repeat (first | refine blk_drewN ?_ _ | refine blk_drew ?_ | refine blk_alloc ?_ _)); exact BK189.out⟩, ⟨by repeat (first | (with_reducible first | exact HB.out | apply below_alloc | apply pw_below_drewN | apply below_drew1 | refine below_set ?_ GE189.out) | exact HB.out)⟩⟩
      case round =>
        clear H'
        try clear c1
        try clear p1
        try clear q1
        try clear hx1
        try clear c2
        try clear c2b0
        try clear c2b1
        try clear p2
        try clear c5
        try clear c5b0
        try clear c5b1
        try clear p6
        try clear c8
        try clear c8b0
        try clear c9
        try clear c9b0
        try clear c10
        try clear c10b0
        try clear hcz12_0
        try clear hcz12_1
        try clear hcz12_2
        try clear hcz12_3
        try clear hcz4_0
        try clear hcz4_1
        try clear hcz4_2
        try clear hcz4_3
        try clear hcz7_0
        try clear hcz7_1
        try clear hcz7_2
        try clear hcz7_3
        try clear hfz12_0
        try clear hfz12_1
        try clear hfz12_2
        try clear hfz12_3
        try clear hfz4_0
        try clear hfz4_1
        try clear hfz4_2
        try clear hfz4_3
        try clear hfz7_0
        try clear hfz7_1
        try clear hfz7_2
        try clear hfz7_3
        try clear hx190_0
        try clear p190
        try clear p2
        try clear p6
        try clear q190
        obtain ⟨x3_1, x43_1, rfl, rfl, HA, HK1, BK189, HB⟩ := hrel
        cases gk with
        | zero => exact absurd HA.out (by simp [wkb_size.l1])
        | succ k1 =>
          have H := HA.out
          clear HA
          simp only [wkb_size.l1] at H
          by_cases c13 : x43_1 < (l0_3.length : Int)
          · rw [if_pos c13] at H
            have c13b0 : decide (x43_1 < (l0_3.length : Int)) = true := decide_eq_true c13
            clear c13
            by_cases c14 : 0 ≤ x43_1
            · rw [if_pos c14] at H
              have c14b0 : decide (0 ≤ x43_1) = true := decide_eq_true c14
              clear c14
              by_cases c15 : x43_1 < (l0_3.length : Int)
              · rw [if_pos c15] at H
                have c15b0 : decide (x43_1 < (l0_3.length : Int)) = true := decide_eq_true c15
                clear c15
                replace H := Option.bind_eq_some_iff.mp H
                obtain ⟨t193, A160, H⟩ := H
                replace H : (wkb_size.l1 k1 (wrap64 (x3_1 + t193)) l0_3 (l0_3.length : Int) (wrap64 (x43_1 + 1))) = some r := H
                have A16 := Aside0.mk A160
                clear A160
                have H' := Aside0.mk H
                clear H
                have p191 : 0 ≤ (x43_1 : Int) := of_decide_eq_true (by first | (with_reducible assumption) | assumption)
                have q191 : x43_1 < (l0_3.length : Int) := of_decide_eq_true (by first | (with_reducible assumption) | assumption)
                obtain ⟨ad191, A191_1, c191_1, A191_2, c191_2, A191_3, c191_3, e191, hx191_0, hx191_1, hx191_2, hx191_3, hl191_1, hi191_1, hl191_2, hi191_2, hl191_3, hi191_3⟩ := at_T28 HR0_3.out x43_1 p191 q191
                cases e191
                replace hx191_0 := (HB.out.cell (World.block_lt_of_cell? w _ hx191_0)).trans hx191_0
                replace hx191_1 := (HB.out.cell (World.block_lt_of_cell? w _ hx191_1)).trans hx191_1
                replace hx191_2 := (HB.out.cell (World.block_lt_of_cell? w _ hx191_2)).trans hx191_2
                replace hx191_3 := (HB.out.cell (World.block_lt_of_cell? w _ hx191_3)).trans hx191_3
                have HR191_1 := Aside0.mk hi191_1
                have HC191_1 := Aside0.mk hl191_1
                clear hi191_1 hl191_1
                have HR191_2 := Aside0.mk hi191_2
                have HC191_2 := Aside0.mk hl191_2
                clear hi191_2 hl191_2
                have HR191_3 := Aside0.mk hi191_3
                have HC191_3 := Aside0.mk hl191_3
                clear hi191_3 hl191_3
                replace p191 := eq_true p191
                replace q191 := eq_true q191
                go_wp2_with (first | ((with_reducible refine gate_dst (N := 7) rfl ?_); refine box_event ?hg (N := 7) ?hd (cs := #[.int .i64 0, .slice none 0 0, .slice none 0 0, .slice none 0 0]) (t := 28) ?hr ?_; (case hd => rfl); (case hg => rfl); (case hr => first | (go_simp; done) | (go_simp; rfl)); intro gb192 hg w17 hbox hb; have n0_ := Aside0.mk (blk_below (g := gb189) (o := .cells #[.int .i64 a0_0, .slice A0_1 l0_1.length c0_1, .slice A0_2 l0_2.length c0_2, .slice (some ad191) l0_3.length c0_3] 28 (0, 0)) (by (with_reducible repeat (first | refine blk_drewN ?_ _ | refine blk_drew ?_ | refine blk_alloc ?_ _)); exact BK189.out) hb); have n1_ := Aside0.mk (below_step (by repeat (first | (with_reducible first | exact HB.out | apply below_alloc | apply pw_below_drewN | apply below_drew1 | refine below_set ?_ GE189.out) | exact HB.out)) hb); have n2_ := Aside0.mk (hbox); have n3_ := Aside0.mk ((by rw [hg]; exact (below_size (by repeat (first | (with_reducible first | exact HB.out | apply below_alloc | apply pw_below_drewN | apply below_drew1 | refine below_set ?_ GE189.out) | exact HB.out))) : w.heap.size ≤ gb192)); have n4_ := Aside0.mk ((by rw [hg]; exact (below_size (by repeat (first | (with_reducible first | exact HB.out | apply below_alloc | apply pw_below_drewN | apply below_drew1 | refine below_set ?_ GE189.out) | exact HB.out))) : w.heap.size ≤ gb192)); have n5_ := Aside0.mk ((by rw [hg]; exact Nat.ne_of_lt (blk_lt (g := gb189) (o := .cells #[.int .i64 a0_0, .slice A0_1 l0_1.length c0_1, .slice A0_2 l0_2.length c0_2, .slice (some ad191) l0_3.length c0_3] 28 (0, 0)) (by (with_reducible repeat (first | refine blk_drewN ?_ _ | refine blk_drew ?_ | refine blk_alloc ?_ _)); exact BK189.out)) : gb189 ≠ gb192)); have n6_ := Aside0.mk ((by rw [hg]; exact Nat.ne_of_gt (blk_lt (g := gb189) (o := .cells #[.int .i64 a0_0, .slice A0_1 l0_1.length c0_1, .slice A0_2 l0_2.length c0_2, .slice (some ad191) l0_3.length c0_3] 28 (0, 0)) (by (with_reducible repeat (first | refine blk_drewN ?_ _ | refine blk_drew ?_ | refine blk_alloc ?_ _)); exact BK189.out)) : gb192 ≠ gb189)); clear BK189; clear HB; have BK189 := n0_; have HB := n1_; have BK192 := n2_; have GW192 := n3_; have GE192 := n4_; have NB189_192 := n5_; have NB192_189 := n6_; clear n0_ n1_ n2_ n3_ n4_ n5_ n6_; clear hb hbox hg; have hnb18 := NB192_189.out; have hnc18 := NB189_192.out; have hcz19_0 : w17.cell? ⟨gb192, 0, none⟩ = some (.int .i64 0) := (blk_cell BK192.out 0).trans rfl; have hcz19_1 : w17.cell? ⟨gb192, 1, none⟩ = some (.slice none 0 0) := (blk_cell BK192.out 1).trans rfl; have hcz19_2 : w17.cell? ⟨gb192, 2, none⟩ = some (.slice none 0 0) := (blk_cell BK192.out 2).trans rfl; have hcz19_3 : w17.cell? ⟨gb192, 3, none⟩ = some (.slice none 0 0) := (blk_cell BK192.out 3).trans rfl; have hfz19_0 := blk_frozen BK192.out 0; have hfz19_1 := blk_frozen BK192.out 1; have hfz19_2 := blk_frozen BK192.out 2; have hfz19_3 := blk_frozen BK192.out 3) | ((with_reducible refine gate_callee (f := 28) rfl ?_); refine goesL_ (some 49) rfl rfl Try.func28 (by kernel_rfl) rfl #[.agg #[.int .i64 ((rd_T28 l0_3 x43_1).f0), .slice A191_1 ((rd_T28 l0_3 x43_1).f1).length c191_1, .slice A191_2 ((rd_T28 l0_3 x43_1).f2).length c191_2, .slice A191_3 ((rd_T28 l0_3 x43_1).f3).length c191_3]] rfl (by (try simp only [List.map_toArray, List.map_cons, List.map_nil]); first | done | rfl | (simp only [List.length_drop, List.length_take]; rfl)) ?_; (with_reducible refine (ih k1 (by have := HK1.out; omega) ((rd_T28 l0_3 x43_1).f0) _ _ ((rd_T28 l0_3 x43_1).f1) _ _ ((rd_T28 l0_3 x43_1).f2) _ _ ((rd_T28 l0_3 x43_1).f3) t193 _ ?side1 ?side2 ?side3 ?side4 ?side5 ?side6 A16.out).mono ?_); (case side1 => exact Kd.C_below HR191_1.out (by repeat (first | (with_reducible first | exact HB.out | apply below_alloc | apply pw_below_drewN | apply below_drew1 | refine below_set ?_ GE189.out | refine below_set ?_ GE192.out) | exact HB.out))); (case side2 => exact HC191_1.out); (case side3 => exact Kd.C_below HR191_2.out (by repeat (first | (with_reducible first | exact HB.out | apply below_alloc | apply pw_below_drewN | apply below_drew1 | refine below_set ?_ GE189.out | refine below_set ?_ GE192.out) | exact HB.out))); (case side4 => exact HC191_2.out); (case side5 => exact Kd.C_below HR191_3.out (by repeat (first | (with_reducible first | exact HB.out | apply below_alloc | apply pw_below_drewN | apply below_drew1 | refine below_set ?_ GE189.out | refine below_set ?_ GE192.out) | exact HB.out))); (case side6 => exact HC191_3.out); rintro e w20 ⟨rfl, hb⟩; refine ⟨_, rfl, ?_⟩; have n0_ := Aside0.mk (blk_below (g := gb189) (o := .cells #[.int .i64 a0_0, .slice A0_1 l0_1.length c0_1, .slice A0_2 l0_2.length c0_2, .slice (some ad191) l0_3.length c0_3] 28 (0, 0)) (by (with_reducible repeat (first | refine blk_drewN ?_ _ | refine blk_drew ?_ | refine blk_alloc ?_ _)); refine blk_far ?_ NB189_192.out _; (with_reducible repeat (first | refine blk_drewN ?_ _ | refine blk_drew ?_ | refine blk_alloc ?_ _)); refine blk_far ?_ NB189_192.out _; (with_reducible repeat (first | refine blk_drewN ?_ _ | refine blk_drew ?_ | refine blk_alloc ?_ _)); refine blk_far ?_ NB189_192.out _; (with_reducible repeat (first | refine blk_drewN ?_ _ | refine blk_drew ?_ | refine blk_alloc ?_ _)); refine blk_far ?_ NB189_192.out _; (with_reducible repeat (first | refine blk_drewN ?_ _ | refine blk_drew ?_ | refine blk_alloc ?_ _)); exact BK189.out) hb); have n1_ := Aside0.mk (blk_below (g := gb192) (o := .cells #[.int .i64 ((rd_T28 l0_3 x43_1).f0), .slice A191_1 ((rd_T28 l0_3 x43_1).f1).length c191_1, .slice A191_2 ((rd_T28 l0_3 x43_1).f2).length c191_2, .slice A191_3 ((rd_T28 l0_3 x43_1).f3).length c191_3] 28 (0, 0)) (by (with_reducible repeat (first | refine blk_drewN ?_ _ | refine blk_drew ?_ | refine blk_alloc ?_ _)); refine blk_put (cs := #[.int .i64 ((rd_T28 l0_3 x43_1).f0), .slice A191_1 ((rd_T28 l0_3 x43_1).f1).length c191_1, .slice A191_2 ((rd_T28 l0_3 x43_1).f2).length c191_2, .slice none 0 0]) ?_ 3 _ rfl; (with_reducible repeat (first | refine blk_drewN ?_ _ | refine blk_drew ?_ | refine blk_alloc ?_ _)); refine blk_put (cs := #[.int .i64 ((rd_T28 l0_3 x43_1).f0), .slice A191_1 ((rd_T28 l0_3 x43_1).f1).length c191_1, .slice none 0 0, .slice none 0 0]) ?_ 2 _ rfl; (with_reducible repeat (first | refine blk_drewN ?_ _ | refine blk_drew ?_ | refine blk_alloc ?_ _)); refine blk_put (cs := #[.int .i64 ((rd_T28 l0_3 x43_1).f0), .slice none 0 0, .slice none 0 0, .slice none 0 0]) ?_ 1 _ rfl; (with_reducible repeat (first | refine blk_drewN ?_ _ | refine blk_drew ?_ | refine blk_alloc ?_ _)); refine blk_put (cs := #[.int .i64 0, .slice none 0 0, .slice none 0 0, .slice none 0 0]) ?_ 0 _ rfl; (with_reducible repeat (first | refine blk_drewN ?_ _ | refine blk_drew ?_ | refine blk_alloc ?_ _)); exact BK192.out) hb); have n2_ := Aside0.mk (below_step (by repeat (first | (with_reducible first | exact HB.out | apply below_alloc | apply pw_below_drewN | apply below_drew1 | refine below_set ?_ GE189.out | refine below_set ?_ GE192.out) | exact HB.out)) hb); clear BK189; clear BK192; clear HB; have BK189 := n0_; have BK192 := n1_; have HB := n2_; clear n0_ n1_ n2_; (try clear hb); (try clear hb2); (try clear hk); (try clear hi)))
                go_roundg k1
                case measure => have := HK1.out; omega
                case rel => exact ⟨(wrap64 (x3_1 + t193)), (wrap64 (x43_1 + 1)), (by first | rfl | (simp; done) | (simp [*]; done)), (by first | rfl | (simp; done) | (simp [*]; done)), H', ⟨by have := HK1.out; omega⟩, ⟨by (with_reducible repeat (first | refine blk_drewN ?_ _ | refine blk_drew ?_ | refine blk_alloc ?_ _)); exact BK189.out⟩, ⟨by repeat (first | (with_reducible first | exact HB.out | apply below_alloc | apply pw_below_drewN | apply below_drew1 | refine below_set ?_ GE189.out | refine below_set ?_ GE192.out) | exact HB.out)⟩⟩
              · rw [if_neg c15] at H
                exact absurd H (by simp)
            · rw [if_neg c14] at H
              exact absurd H (by simp)
          · rw [if_neg c13] at H
            have c13b0 : decide (x43_1 < (l0_3.length : Int)) = false := decide_eq_false c13
            clear c13
            obtain rfl := Option.some.inj H
            go_wp2
            go_ret
            exact ⟨by first | rfl | (simp [errW_none, errW_some] <;> rfl) | (simp [*, errW_none, errW_some] <;> rfl), by repeat (first | (with_reducible first | exact HB.out | apply below_alloc | apply pw_below_drewN | apply below_drew1 | refine below_set ?_ GE189.out) | exact HB.out)⟩

-- NOT PRINTED: function 15 (wkb_Size)

-- NOT PRINTED: function 16 (tree_Count)

-- NOT PRINTED: function 17 (tree_Depth)

-- NOT PRINTED: function 4 (plumblaw17_WkbBack)


def plumblaw17_same.l0 : Nat → List Int → List Int → Int → Option (Bool)
  | 0, _, _, _ => none
  | k + 1, x0, x1, x5 => if x5 < (x0.length : Int) then (if 0 ≤ x5 then (if x5 < (x1.length : Int) then (if (rd x0 x5) = (rd x1 x5) then (plumblaw17_same.l0 k x0 x1 (wrap64 (x5 + 1))) else (some false)) else (none)) else (none)) else (some true)
def plumblaw17_same.f (k : Nat) (l0 : List Int) (l1 : List Int) : Option (Bool) := if (l0.length : Int) = (l1.length : Int) then (plumblaw17_same.l0 k l0 l1 0) else (some false)
theorem plumblaw17_same.mono_l : ∀ k, (∀ y0 y1 y2, LeO (plumblaw17_same.l0 k y0 y1 y2) (plumblaw17_same.l0 (k + 1) y0 y1 y2))
  | 0 => fun _ _ _ r h => by simp [plumblaw17_same.l0] at h
  | k + 1 => by
    have ih0 := plumblaw17_same.mono_l k
    · intro y0 y1 y2
      unfold plumblaw17_same.l0
      repeat' first
      | (with_reducible exact ih0 _ _ _)
      | (with_reducible exact LeO.refl _)
      | (with_reducible exact LeO.none _)
      | (with_reducible refine LeO.ite ?_ ?_)
      | (with_reducible refine LeO.bind ?_ (fun _ => ?_))
      | exact ih0 _ _ _
      | exact LeO.none _
      | refine LeO.ite ?_ ?_
      | refine LeO.bind ?_ (fun _ => ?_)
theorem plumblaw17_same.mono : ∀ a0 a1 k, LeO (plumblaw17_same.f k a0 a1) (plumblaw17_same.f (k + 1) a0 a1) := by
  intro a0 a1 k
  have ih0 := plumblaw17_same.mono_l k
  unfold plumblaw17_same.f
  repeat' first
      | (with_reducible exact ih0 _ _ _)
      | (with_reducible exact LeO.refl _)
      | (with_reducible exact LeO.none _)
      | (with_reducible refine LeO.ite ?_ ?_)
      | (with_reducible refine LeO.bind ?_ (fun _ => ?_))
      | exact ih0 _ _ _
      | exact LeO.none _
      | refine LeO.ite ?_ ?_
      | refine LeO.bind ?_ (fun _ => ?_)
set_option maxHeartbeats 8000000 in
set_option maxRecDepth 100000 in
theorem plumblaw17_same.calls (k : Nat) (A0 : Option Addr) (c0 : Nat) (l0 : List Int) (A1 : Option Addr) (c1 : Nat) (l1 : List Int) (r : Bool) (w : World) (hr0 : Kd.C (Kd.int .u8) w A0 l0.length l0) (hc0 : l0.length ≤ c0) (hr1 : Kd.C (Kd.int .u8) w A1 l1.length l1) (hc1 : l1.length ≤ c1) (h : plumblaw17_same.f k l0 l1 = some r) :
    Calls Try.prog 14 #[.slice A0 l0.length c0, .slice A1 l1.length c1] w fun e w' => e = .returned (.bool r) ∧ Drawn0 w w' := by
  have HR0 := Aside0.mk hr0
  have HC0 := Aside0.mk hc0
  clear hr0 hc0
  have HR1 := Aside0.mk hr1
  have HC1 := Aside0.mk hc1
  clear hr1 hc1
  have H : (if (l0.length : Int) = (l1.length : Int) then (plumblaw17_same.l0 k l0 l1 0) else (some false)) = some r := h
  clear h
  by_cases c3 : (l0.length : Int) = (l1.length : Int)
  · rw [if_pos c3] at H
    have c3b0 : ((l0.length : Int) == (l1.length : Int)) = true := beq_iff_eq.mpr c3
    have c3b1 : ((l0.length : Int) != (l1.length : Int)) = false := bne_eq_false_iff_eq.mpr c3
    have c3b2 : (l0.length == l1.length) = true := by first | simpa using c3 | (simp at c3 ⊢; omega)
    clear c3
    have H' := Aside0.mk H
    clear H
    go_enter Try.func14, Try.ntmps14
    go_wp2
    repeat (go_quiet (fail); try go_wp2)
    go_loopg [5] k (fun kq v5 w' => ∃ (x5_1 : Int), v5 = .int .i64 x5_1 ∧ Aside0 (plumblaw17_same.l0 kq l0 l1 x5_1 = some r) ∧ Aside0 (kq ≤ k) ∧ Drawn0 w w')
    case atStart => exact ⟨(0), (by first | rfl | (simp; done) | (simp [*]; done)), H', ⟨Nat.le_refl _⟩, by repeat (first | exact Drawn0.refl _ | apply Drawn0.step)⟩
    case round =>
      clear H'
      try clear c1
      try clear p2
      try clear c3
      try clear c3b0
      try clear c3b1
      try clear c3b2
      obtain ⟨x5_1, rfl, HA, HK1, ⟨m1, rfl⟩⟩ := hrel
      cases gk with
      | zero => exact absurd HA.out (by simp [plumblaw17_same.l0])
      | succ k1 =>
        have H := HA.out
        clear HA
        simp only [plumblaw17_same.l0] at H
        by_cases c4 : x5_1 < (l0.length : Int)
        · rw [if_pos c4] at H
          have c4b0 : decide (x5_1 < (l0.length : Int)) = true := decide_eq_true c4
          clear c4
          by_cases c5 : 0 ≤ x5_1
          · rw [if_pos c5] at H
            have c5b0 : decide (0 ≤ x5_1) = true := decide_eq_true c5
            clear c5
            by_cases c6 : x5_1 < (l1.length : Int)
            · rw [if_pos c6] at H
              have c6b0 : decide (x5_1 < (l1.length : Int)) = true := decide_eq_true c6
              clear c6
              by_cases c7 : (rd l0 x5_1) = (rd l1 x5_1)
              · rw [if_pos c7] at H
                have c7b0 : ((rd l0 x5_1) == (rd l1 x5_1)) = true := beq_iff_eq.mpr c7
                have c7b1 : ((rd l0 x5_1) != (rd l1 x5_1)) = false := bne_eq_false_iff_eq.mpr c7
                clear c7
                have H' := Aside0.mk H
                clear H
                have p187 : 0 ≤ (x5_1 : Int) := of_decide_eq_true (by first | (with_reducible assumption) | assumption)
                have q187 : x5_1 < (l0.length : Int) := of_decide_eq_true (by first | (with_reducible assumption) | assumption)
                obtain ⟨ad187, e187, hx187_0⟩ := Kd.at_int HR0.out x5_1 p187 q187
                cases e187
                replace p187 := eq_true p187
                replace q187 := eq_true q187
                have p188 : 0 ≤ (x5_1 : Int) := of_decide_eq_true (by first | (with_reducible assumption) | assumption)
                have q188 : x5_1 < (l1.length : Int) := of_decide_eq_true (by first | (with_reducible assumption) | assumption)
                obtain ⟨ad188, e188, hx188_0⟩ := Kd.at_int HR1.out x5_1 p188 q188
                cases e188
                replace p188 := eq_true p188
                replace q188 := eq_true q188
                go_wp2
                repeat (go_quiet (fail); try go_wp2)
                go_roundg k1
                case measure => have := HK1.out; omega
                case rel => exact ⟨(wrap64 (x5_1 + 1)), (by first | rfl | (simp; done) | (simp [*]; done)), H', ⟨by have := HK1.out; omega⟩, by repeat (first | exact Drawn0.refl _ | apply Drawn0.step)⟩
              · rw [if_neg c7] at H
                have c7b0 : ((rd l0 x5_1) == (rd l1 x5_1)) = false := beq_eq_false_iff_ne.mpr c7
                have c7b1 : ((rd l0 x5_1) != (rd l1 x5_1)) = true := bne_iff_ne.mpr c7
                obtain rfl := Option.some.inj H
                have p187 : 0 ≤ (x5_1 : Int) := of_decide_eq_true (by first | (with_reducible assumption) | assumption)
                have q187 : x5_1 < (l0.length : Int) := of_decide_eq_true (by first | (with_reducible assumption) | assumption)
                obtain ⟨ad187, e187, hx187_0⟩ := Kd.at_int HR0.out x5_1 p187 q187
                cases e187
                replace p187 := eq_true p187
                replace q187 := eq_true q187
                have p188 : 0 ≤ (x5_1 : Int) := of_decide_eq_true (by first | (with_reducible assumption) | assumption)
                have q188 : x5_1 < (l1.length : Int) := of_decide_eq_true (by first | (with_reducible assumption) | assumption)
                obtain ⟨ad188, e188, hx188_0⟩ := Kd.at_int HR1.out x5_1 p188 q188
                cases e188
                replace p188 := eq_true p188
                replace q188 := eq_true q188
                go_wp2
                repeat (go_quiet (fail); try go_wp2)
                go_ret
                exact ⟨by first | rfl | (simp; done) | (simp [*]; done), by repeat (first | exact Drawn0.refl _ | apply Drawn0.step)⟩
            · rw [if_neg c6] at H
              exact absurd H (by simp)
          · rw [if_neg c5] at H
            exact absurd H (by simp)
        · rw [if_neg c4] at H
          have c4b0 : decide (x5_1 < (l0.length : Int)) = false := decide_eq_false c4
          clear c4
          obtain rfl := Option.some.inj H
          go_wp2
          repeat (go_quiet (fail); try go_wp2)
          go_ret
          exact ⟨by first | rfl | (simp; done) | (simp [*]; done), by repeat (first | exact Drawn0.refl _ | apply Drawn0.step)⟩
  · rw [if_neg c3] at H
    have c3b0 : ((l0.length : Int) == (l1.length : Int)) = false := beq_eq_false_iff_ne.mpr c3
    have c3b1 : ((l0.length : Int) != (l1.length : Int)) = true := bne_iff_ne.mpr c3
    have c3b2 : (l0.length == l1.length) = false := by first | simpa using c3 | (simp at c3 ⊢; omega)
    obtain rfl := Option.some.inj H
    go_enter Try.func14, Try.ntmps14
    go_wp2
    repeat (go_quiet (fail); try go_wp2)
    go_ret
    exact ⟨by first | rfl | (simp; done) | (simp [*]; done), by repeat (first | exact Drawn0.refl _ | apply Drawn0.step)⟩


end Go.Proofs.Ytiiolhnpnlmkjaa.PWkbPrints
