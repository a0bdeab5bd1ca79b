/- Texts of this claim laid one behind the other (THurtL; PWkbPrintsx6; TSameB; PCt; TBytes; TEqSem; TSame; TEqualW): what each proves stands at its own names; the last one is the claim's. No conditions but those told. -/
import Derived.Test.YtiiolhnpnlmkjaaZOnj
import Derived.Test.YtiiolhnpnlmkjaaProg
import Derived.Below
import Derived.Deep.Draws
import Derived.Deep.AppendLies
import Derived.Maps.AppendAt
import Derived.OwnWalk
import Derived.Laws.BytesArg
import Derived.Laws.MakeOwn
import Derived.Laws.OwnMore
import Derived.Deep.OwnRows
import Derived.Tactics
import Derived.Lib.ConvBytes
import Derived.Laws.Slices
import Derived.WalkKit
import Derived.KernelRfl
import Derived.RowKit3
import Derived.Deep.LoopGhost
import Derived.Deep.QuietTactic
import Derived.BigQuiet
import Derived.WideLaws
import Derived.Deep.DeepCutAuto
import Derived.Deep.CutBlock
import Derived.Deep.RegionHeld3
import Derived.Laws.Rows
import Derived.Lib.AppendStr
import Derived.ArgAppend
import Derived.Laws.IdiomCopy
import Derived.OrdersHeld
import Derived.Laws.BitsLemmas
import Derived.RowKit
import Derived.Test.YtiiolhnpnlmkjaaMathCopy
import Derived.Test.YtiiolhnpnlmkjaaMathMake
import Derived.IntWalk
import Derived.Laws.BitsAllLaws
import Derived.RegionTactic
import Derived.Test.YtiiolhnpnlmkjaaWWords
import Derived.Test.YtiiolhnpnlmkjaaWLast
import Derived.Test.YtiiolhnpnlmkjaaWTab
import Derived.Test.YtiiolhnpnlmkjaaWFour
import Derived.Test.YtiiolhnpnlmkjaaWQPut
import Derived.Test.YtiiolhnpnlmkjaaWApart
import Derived.Test.YtiiolhnpnlmkjaaWArr
import Derived.Test.YtiiolhnpnlmkjaaWZeros
import Derived.Test.YtiiolhnpnlmkjaaWFoot
import Derived.Test.YtiiolhnpnlmkjaaWKept
import Derived.Test.YtiiolhnpnlmkjaaWShare
import Derived.Test.YtiiolhnpnlmkjaaWN
import Derived.Test.YtiiolhnpnlmkjaaWFootNe
import Derived.Test.YtiiolhnpnlmkjaaWAt
import Derived.Test.YtiiolhnpnlmkjaaWEqStruct
import Derived.Test.YtiiolhnpnlmkjaaWRepsOne
import Derived.Test.YtiiolhnpnlmkjaaWInv
import Derived.Test.YtiiolhnpnlmkjaaWInvWords
import Derived.Test.YtiiolhnpnlmkjaaWGuard
import Derived.Test.YtiiolhnpnlmkjaaWNEv
import Derived.Test.YtiiolhnpnlmkjaaWMore
import Derived.RangeFuncRecord
namespace Go.Proofs.Ytiiolhnpnlmkjaa.Tree
open Go.RowKit Go.Proofs.Ytiiolhnpnlmkjaa.PWkbPrints Go.Proofs.YtiiolhnpnlmkjaaW.PrintWords Go.Proofs.YtiiolhnpnlmkjaaW.PrintLast Go.Proofs.YtiiolhnpnlmkjaaW.PrintMore
theorem size_geo (os : List Bool) (m : Nat) : (∀ (g : Ge) (lvl o : Int) (n : Nat), g.bulk ≤ m → AllG g lvl o → (geoB os g n).length = sizeW g) ∧
    (∀ (l : List Ge) (lvl o : Int) (n : Nat), bulks l ≤ m → (∀ p ∈ l, AllG p lvl o) → (partsB os l n).length = sizesW l) := by
  induction m with
  | zero =>
    refine ⟨fun g _ _ _ h => by have := g.bulk_eq; omega, fun l _ _ n h _ => ?_⟩
    cases l with
    | nil => rfl
    | cons p l => rw [bulks] at h; have := p.bulk_eq; omega
  | succ m ih =>
    have hg : ∀ (g : Ge) (lvl o : Int) (n : Nat), g.bulk ≤ m + 1 → AllG g lvl o → (geoB os g n).length = sizeW g := by
      intro g lvl o n hb hG
      have hq := g.bulk_eq
      have hs := shaped_all hG.here.s
      rw [geoB_eq, sizeW_eq]
      simp only [List.length_append, P32_len, bitB, List.length_singleton]
      by_cases k1 : g.f0 = 1
      · rw [if_pos k1, if_pos k1]
        have h1 := hs.2.2.2.2.2.2 k1
        split
        · rw [ptsB_len]; rfl
        · rw [ptsB_len]; omega
      rw [if_neg k1, if_neg k1]
      by_cases k2 : g.f0 = 2
      · rw [if_pos k2, if_pos k2, List.length_append, P32_len, ptsB_len]; omega
      rw [if_neg k2, if_neg k2]
      by_cases k3 : g.f0 = 3
      · rw [if_pos k3, if_pos k3, List.length_append, P32_len, ringsB_len]; omega
      rw [if_neg k3, if_neg k3, List.length_append, P32_len, ih.2 g.f3 (lvl + 1) g.f0 (n + 1) (by omega) (fun p hp => hG.part hp)]
      omega
    refine ⟨hg, fun l => ?_⟩
    induction l with
    | nil => intro _ _ n _ _; rfl
    | cons p l ihl =>
      intro lvl o n hb hl
      rw [bulks] at hb
      rw [partsB, sizesW, List.length_append, hg p lvl o n (by omega) (hl p (by simp)), ihl lvl o _ (by omega) (fun q hq => hl q (by simp [hq]))]
theorem byt_app {a b : List Int} (h : Byt a) (k : Byt b) : Byt (a ++ b) := fun x hx => by
  rcases List.mem_append.1 hx with hx | hx
  · exact h x hx
  · exact k x hx
theorem byt_P32 (v : Int) (le : Bool) : Byt (P32 v le) := fun x hx => by
  unfold P32 octet_put_uint32.out at hx
  split at hx <;> simp at hx <;> omega
theorem byt_P64 (v : Int) (le : Bool) : Byt (P64 [] v le) := fun x hx => by
  unfold P64 octet_put_uint64.out at hx
  split at hx <;> simp at hx <;> omega
theorem byt_pts (le : Bool) (l : List Pt) : Byt (ptsB le l) := by
  induction l with
  | nil => intro x hx; cases hx
  | cons q l ih => rw [ptsB_cons]; exact byt_app (byt_app (byt_P64 _ _) (byt_P64 _ _)) ih
theorem byt_rings (le : Bool) (l : List (List Pt)) : Byt (ringsB le l) := by
  induction l with
  | nil => intro x hx; cases hx
  | cons r l ih => unfold ringsB; rw [List.flatMap_cons]; exact byt_app (byt_app (byt_P32 _ _) (byt_pts _ _)) ih
theorem byt_bit (le : Bool) : Byt (bitB le) := fun x hx => by
  unfold bitB at hx
  cases le <;> simp at hx <;> omega
theorem byt_geo (os : List Bool) (m : Nat) : (∀ (g : Ge) (n : Nat), g.bulk ≤ m → Byt (geoB os g n)) ∧ (∀ (l : List Ge) (n : Nat), bulks l ≤ m → Byt (partsB os l n)) := by
  induction m with
  | zero =>
    refine ⟨fun g _ h => by have := g.bulk_eq; omega, fun l n h => ?_⟩
    cases l with
    | nil => intro x hx; cases hx
    | cons p l => rw [bulks] at h; have := p.bulk_eq; omega
  | succ m ih =>
    have hg : ∀ (g : Ge) (n : Nat), g.bulk ≤ m + 1 → Byt (geoB os g n) := by
      intro g n hb
      have hq := g.bulk_eq
      rw [geoB_eq]
      refine byt_app (byt_bit _) (byt_app (byt_P32 _ _) ?_)
      split
      · split
        · exact byt_pts _ _
        · exact byt_pts _ _
      split
      · exact byt_app (byt_P32 _ _) (byt_pts _ _)
      split
      · exact byt_app (byt_P32 _ _) (byt_rings _ _)
      · exact byt_app (byt_P32 _ _) (ih.2 g.f3 (n + 1) (by omega))
    refine ⟨hg, fun l => ?_⟩
    induction l with
    | nil => intro n _ x hx; cases hx
    | cons p l ihl =>
      intro n hb
      rw [bulks] at hb
      rw [partsB]
      exact byt_app (hg p n (by omega)) (ihl _ (by omega))
theorem parsed_cases (b : List Int) (depth most : Int) : (∃ p e, parsedR b depth most = .error (p, e)) ∨ ∃ g os, parsedR b depth most = .ok (g, os) := by
  generalize parsedR b depth most = e
  rcases e with x | r
  · exact .inl ⟨x.1, x.2, rfl⟩
  · exact .inr ⟨r.1, r.2, rfl⟩
theorem ords_self (os : List Bool) : ords os 0 os.length = os := by
  have h : ∀ (m n : Nat), n + m = os.length → ords os n m = os.drop n := by
    intro m
    induction m with
    | zero => intro n hn; rw [ords, List.drop_eq_nil_of_le (by omega)]
    | succ m ih =>
      intro n hn
      rw [ords, ih (n + 1) (by omega), List.drop_eq_getElem_cons (show n < os.length by omega)]
      congr 1
      unfold ordAt
      rw [if_neg (by omega), show min n (os.length - 1) = n from by omega, List.getD_eq_getElem?_getD, List.getElem?_eq_getElem (by omega), Option.getD_some]
  exact h os.length 0 (by omega)
/-- What is taken: its bytes are those that were read, as the finder makes them. -/
theorem back_walk {b : List Int} (hb : Byt b) {depth most : Int} {r : Ge × List Bool} (h : parsedR b depth most = .ok r) :
    b.length ≤ 65536 ∧ checkR r.1 = none ∧ r.1.bulk ≤ 65536 ∧ sizeW r.1 = b.length ∧ r.2.length ≤ 65536 ∧ (geoB r.2 r.1 0).length = b.length ∧ (walkG r.1 (b, 0)).1 = geoB r.2 r.1 0 ∧ (walkG r.1 (b, 0)).2 = b.length := by
  obtain ⟨h1, h2, h3⟩ := parsed_back hb h
  have h4 : ords r.2 0 (cntG r.1) = r.2 := by rw [← h2.o]; exact ords_self r.2
  obtain ⟨h5, h6⟩ := h2.k r.2 0 h4
  have h7 := h6 [] rfl
  rw [List.nil_append, List.nil_append, List.drop_zero, List.drop_length, List.append_nil] at h7
  have h8 := (size_geo r.2 r.1.bulk).1 r.1 1 0 0 (Nat.le_refl _) h2.G
  have h9 := h2.u
  have h10 := h2.o
  have h11 := (geoB_le r.2 r.1 0).2
  exact ⟨h1, h3, by omega, by omega, by omega, by omega, by rw [h7], by rw [h7]⟩
theorem back_walk2 {b : List Int} (hb : Byt b) {depth most : Int} {g : Ge} {os : List Bool} (h : parsedR b depth most = .ok (g, os)) :
    checkR g = none ∧ g.bulk ≤ 65536 ∧ sizeW g = b.length ∧ os.length ≤ 65536 ∧ (geoB os g 0).length = b.length ∧ (walkG g (b, 0)).1 = geoB os g 0 ∧ (walkG g (b, 0)).2 = b.length := (back_walk hb h).2
end Go.Proofs.Ytiiolhnpnlmkjaa.Tree
namespace Go.Proofs.Ytiiolhnpnlmkjaa.PWkbPrints
open Go.RowKit Go.Proofs.YtiiolhnpnlmkjaaW.PrintWords Go.Proofs.YtiiolhnpnlmkjaaW.PrintLast Go.Proofs.YtiiolhnpnlmkjaaW.PrintMore
attribute [local go_sem] max2_int min2_int max_two min_two max_three min_three max_four min_four

mutual
def wkb_size.l0 : Nat → Int → List (List (S65)) → Int → Int → Option (Int)
  | 0, _, _, _, _ => none
  | k + 1, x3, x19, x20, x21 => if x21 < x20 then (if 0 ≤ x21 then (if x21 < (x19.length : Int) then (wkb_size.l0 k (wrap64 (x3 + (wrap64 (4 + (wrap64 (16 * ((rd_L2 x19 x21).length : Int))))))) x19 x20 (wrap64 (x21 + 1))) else (none)) else (none)) else (some x3)
def wkb_size.l1 : Nat → Int → List (S28) → Int → Int → Option (Int)
  | 0, _, _, _, _ => none
  | k + 1, x3, x41, x42, x43 => if x43 < x42 then (if 0 ≤ x43 then (if x43 < (x41.length : Int) then ((wkb_size.f k ((rd_T28 x41 x43).f0) ((rd_T28 x41 x43).f1) ((rd_T28 x41 x43).f2) ((rd_T28 x41 x43).f3)).bind fun t193 => (wkb_size.l1 k (wrap64 (x3 + t193)) x41 x42 (wrap64 (x43 + 1)))) else (none)) else (none)) else (some x3)
def wkb_size.f : Nat → Int → List (S65) → List (List (S65)) → List (S28) → Option (Int)
  | 0, _, _, _, _ => none
  | k + 1, a0_0, l0_1, l0_2, l0_3 => if a0_0 = 1 then (some (5 + 16)) else (if a0_0 = 3 then (wkb_size.l0 k (5 + 4) l0_2 (l0_2.length : Int) 0) else (wkb_size.l1 k (wrap64 (5 + (wrap64 (4 + (wrap64 (16 * (l0_1.length : Int))))))) l0_3 (l0_3.length : Int) 0))
end
theorem wkb_size.mono_l : ∀ k, (∀ y0 y1 y2 y3, LeO (wkb_size.f k y0 y1 y2 y3) (wkb_size.f (k + 1) y0 y1 y2 y3)) ∧ (∀ y0 y1 y2 y3, LeO (wkb_size.l0 k y0 y1 y2 y3) (wkb_size.l0 (k + 1) y0 y1 y2 y3)) ∧ (∀ y0 y1 y2 y3, LeO (wkb_size.l1 k y0 y1 y2 y3) (wkb_size.l1 (k + 1) y0 y1 y2 y3))
  | 0 => ⟨fun _ _ _ _ r h => by simp [wkb_size.f] at h, fun _ _ _ _ r h => by simp [wkb_size.l0] at h, fun _ _ _ _ r h => by simp [wkb_size.l1] at h⟩
  | k + 1 => by
    obtain ⟨ih0, ih1, ih2⟩ := wkb_size.mono_l k
    refine ⟨?_, ?_, ?_⟩
    · intro y0 y1 y2 y3
      unfold wkb_size.f
      repeat' first
      | (with_reducible exact ih0 _ _ _ _)
      | (with_reducible exact ih1 _ _ _ _)
      | (with_reducible exact ih2 _ _ _ _)
      | (with_reducible exact LeO.refl _)
      | (with_reducible exact LeO.none _)
      | (with_reducible refine LeO.ite ?_ ?_)
      | (with_reducible refine LeO.bind ?_ (fun _ => ?_))
      | exact ih0 _ _ _ _
      | exact ih1 _ _ _ _
      | exact ih2 _ _ _ _
      | exact LeO.none _
      | refine LeO.ite ?_ ?_
      | refine LeO.bind ?_ (fun _ => ?_)
    · intro y0 y1 y2 y3
      unfold wkb_size.l0
      repeat' first
      | (with_reducible exact ih0 _ _ _ _)
      | (with_reducible exact ih1 _ _ _ _)
      | (with_reducible exact ih2 _ _ _ _)
      | (with_reducible exact LeO.refl _)
      | (with_reducible exact LeO.none _)
      | (with_reducible refine LeO.ite ?_ ?_)
      | (with_reducible refine LeO.bind ?_ (fun _ => ?_))
      | exact ih0 _ _ _ _
      | exact ih1 _ _ _ _
      | exact ih2 _ _ _ _
      | exact LeO.none _
      | refine LeO.ite ?_ ?_
      | refine LeO.bind ?_ (fun _ => ?_)
    · intro y0 y1 y2 y3
      unfold wkb_size.l1
      repeat' first
      | (with_reducible exact ih0 _ _ _ _)
      | (with_reducible exact ih1 _ _ _ _)
      | (with_reducible exact ih2 _ _ _ _)
      | (with_reducible exact LeO.refl _)
      | (with_reducible exact LeO.none _)
      | (with_reducible refine LeO.ite ?_ ?_)
      | (with_reducible refine LeO.bind ?_ (fun _ => ?_))
      | exact ih0 _ _ _ _
      | exact ih1 _ _ _ _
      | exact ih2 _ _ _ _
      | exact LeO.none _
      | refine LeO.ite ?_ ?_
      | refine LeO.bind ?_ (fun _ => ?_)
theorem wkb_size.mono : ∀ a0 a1 a2 a3 k, LeO (wkb_size.f k a0 a1 a2 a3) (wkb_size.f (k + 1) a0 a1 a2 a3) := by
  intro a0 a1 a2 a3 k
  obtain ⟨ih0, ih1, ih2⟩ := wkb_size.mono_l k
  exact ih0 a0 a1 a2 a3
set_option maxHeartbeats 8000000 in
set_option maxRecDepth 100000 in
theorem wkb_size.calls (k : Nat) : ∀ (a0_0 : Int) (A0_1 : Option Addr) (c0_1 : Nat) (l0_1 : List (S65)) (A0_2 : Option Addr) (c0_2 : Nat) (l0_2 : List (List (S65))) (A0_3 : Option Addr) (c0_3 : Nat) (l0_3 : List (S28)) (r : Int) (w : World) (hr0_1 : Kd.C k65 w A0_1 l0_1.length l0_1) (hc0_1 : l0_1.length ≤ c0_1) (hr0_2 : Kd.C (Kd.slice 65 k65) w A0_2 l0_2.length l0_2) (hc0_2 : l0_2.length ≤ c0_2) (hr0_3 : Kd.C k28 w A0_3 l0_3.length l0_3) (hc0_3 : l0_3.length ≤ c0_3) (h : wkb_size.f k a0_0 l0_1 l0_2 l0_3 = some r),
    Calls Try.prog 28 #[.agg #[.int .i64 a0_0, .slice A0_1 l0_1.length c0_1, .slice A0_2 l0_2.length c0_2, .slice A0_3 l0_3.length c0_3]] w fun e w' => e = .returned (.int .i64 r) ∧ Below w.heap.size w w' := by
  induction k using Nat.strongRecOn with
  | _ k ih =>
  intro a0_0 A0_1 c0_1 l0_1 A0_2 c0_2 l0_2 A0_3 c0_3 l0_3 r w hr0_1 hc0_1 hr0_2 hc0_2 hr0_3 hc0_3 h
  cases k with
  | zero => exact absurd h (by simp [wkb_size.f])
  | succ k =>
  simp only [wkb_size.f] at h
  have hu28 := Try.underlying28
  have HR0_1 := Aside0.mk hr0_1
  have HC0_1 := Aside0.mk hc0_1
  clear hr0_1 hc0_1
  have HR0_2 := Aside0.mk hr0_2
  have HC0_2 := Aside0.mk hc0_2
  clear hr0_2 hc0_2
  have HR0_3 := Aside0.mk hr0_3
  have HC0_3 := Aside0.mk hc0_3
  clear hr0_3 hc0_3
  have HB := Aside0.mk (Below.refl w.heap.size w)
  have H : (if a0_0 = 1 then (some (5 + 16)) else (if a0_0 = 3 then (wkb_size.l0 k (5 + 4) l0_2 (l0_2.length : Int) 0) else (wkb_size.l1 k (wrap64 (5 + (wrap64 (4 + (wrap64 (16 * (l0_1.length : Int))))))) l0_3 (l0_3.length : Int) 0))) = some r := h
  clear h
  by_cases c2 : a0_0 = 1
  · rw [if_pos c2] at H
    have c2b0 : (a0_0 == 1) = true := beq_iff_eq.mpr c2
    have c2b1 : (a0_0 != 1) = false := bne_eq_false_iff_eq.mpr c2
    clear c2
    obtain rfl := Option.some.inj H
    go_enter Try.func28, Try.ntmps28
    go_wp2_with (first | ((with_reducible refine gate_dst (N := 1) rfl ?_); refine box_event ?hg (N := 1) ?hd (cs := #[.int .i64 a0_0, .slice A0_1 l0_1.length c0_1, .slice A0_2 l0_2.length c0_2, .slice A0_3 l0_3.length c0_3]) (t := 28) ?hr ?_; (case hd => rfl); (case hg => rfl); (case hr => first | (go_simp; done) | (go_simp; rfl)); intro gb189 hg w3 hbox hb; have n0_ := Aside0.mk (below_step (by repeat (first | (with_reducible first | exact HB.out | apply below_alloc | apply pw_below_drewN | apply below_drew1) | exact HB.out)) hb); have n1_ := Aside0.mk (hbox); have n2_ := Aside0.mk ((by rw [hg]; exact (below_size (by repeat (first | (with_reducible first | exact HB.out | apply below_alloc | apply pw_below_drewN | apply below_drew1) | exact HB.out))) : w.heap.size ≤ gb189)); have n3_ := Aside0.mk ((by rw [hg]; exact (below_size (by repeat (first | (with_reducible first | exact HB.out | apply below_alloc | apply pw_below_drewN | apply below_drew1) | exact HB.out))) : w.heap.size ≤ gb189)); clear HB; have HB := n0_; have BK189 := n1_; have GW189 := n2_; have GE189 := n3_; clear n0_ n1_ n2_ n3_; clear hb hbox hg; have hcz4_0 : w3.cell? ⟨gb189, 0, none⟩ = some (.int .i64 a0_0) := (blk_cell BK189.out 0).trans rfl; have hcz4_1 : w3.cell? ⟨gb189, 1, none⟩ = some (.slice A0_1 l0_1.length c0_1) := (blk_cell BK189.out 1).trans rfl; have hcz4_2 : w3.cell? ⟨gb189, 2, none⟩ = some (.slice A0_2 l0_2.length c0_2) := (blk_cell BK189.out 2).trans rfl; have hcz4_3 : w3.cell? ⟨gb189, 3, none⟩ = some (.slice A0_3 l0_3.length c0_3) := (blk_cell BK189.out 3).trans rfl; have hfz4_0 := blk_frozen BK189.out 0; have hfz4_1 := blk_frozen BK189.out 1; have hfz4_2 := blk_frozen BK189.out 2; have hfz4_3 := blk_frozen BK189.out 3))
    go_ret
    exact ⟨by first | rfl | (simp [errW_none, errW_some] <;> rfl) | (simp [*, errW_none, errW_some] <;> rfl), by repeat (first | (with_reducible first | exact HB.out | apply below_alloc | apply pw_below_drewN | apply below_drew1 | refine below_set ?_ GE189.out) | exact HB.out)⟩
  · rw [if_neg c2] at H
    have c2b0 : (a0_0 == 1) = false := beq_eq_false_iff_ne.mpr c2
    have c2b1 : (a0_0 != 1) = true := bne_iff_ne.mpr c2
    by_cases c5 : a0_0 = 3
    · rw [if_pos c5] at H
      have c5b0 : (a0_0 == 3) = true := beq_iff_eq.mpr c5
      have c5b1 : (a0_0 != 3) = false := bne_eq_false_iff_eq.mpr c5
      clear c5
      have H' := Aside0.mk H
      clear H
      go_enter Try.func28, Try.ntmps28
      go_wp2_with (first | ((with_reducible refine gate_dst (N := 1) rfl ?_); refine box_event ?hg (N := 1) ?hd (cs := #[.int .i64 a0_0, .slice A0_1 l0_1.length c0_1, .slice A0_2 l0_2.length c0_2, .slice A0_3 l0_3.length c0_3]) (t := 28) ?hr ?_; (case hd => rfl); (case hg => rfl); (case hr => first | (go_simp; done) | (go_simp; rfl)); intro gb189 hg w6 hbox hb; have n0_ := Aside0.mk (below_step (by repeat (first | (with_reducible first | exact HB.out | apply below_alloc | apply pw_below_drewN | apply below_drew1) | exact HB.out)) hb); have n1_ := Aside0.mk (hbox); have n2_ := Aside0.mk ((by rw [hg]; exact (below_size (by repeat (first | (with_reducible first | exact HB.out | apply below_alloc | apply pw_below_drewN | apply below_drew1) | exact HB.out))) : w.heap.size ≤ gb189)); have n3_ := Aside0.mk ((by rw [hg]; exact (below_size (by repeat (first | (with_reducible first | exact HB.out | apply below_alloc | apply pw_below_drewN | apply below_drew1) | exact HB.out))) : w.heap.size ≤ gb189)); clear HB; have HB := n0_; have BK189 := n1_; have GW189 := n2_; have GE189 := n3_; clear n0_ n1_ n2_ n3_; clear hb hbox hg; have hcz7_0 : w6.cell? ⟨gb189, 0, none⟩ = some (.int .i64 a0_0) := (blk_cell BK189.out 0).trans rfl; have hcz7_1 : w6.cell? ⟨gb189, 1, none⟩ = some (.slice A0_1 l0_1.length c0_1) := (blk_cell BK189.out 1).trans rfl; have hcz7_2 : w6.cell? ⟨gb189, 2, none⟩ = some (.slice A0_2 l0_2.length c0_2) := (blk_cell BK189.out 2).trans rfl; have hcz7_3 : w6.cell? ⟨gb189, 3, none⟩ = some (.slice A0_3 l0_3.length c0_3) := (blk_cell BK189.out 3).trans rfl; have hfz7_0 := blk_frozen BK189.out 0; have hfz7_1 := blk_frozen BK189.out 1; have hfz7_2 := blk_frozen BK189.out 2; have hfz7_3 := blk_frozen BK189.out 3))
      go_loopg [3, 21] k (fun kq v3 v21 w' => ∃ (x3_1 : Int) (x21_1 : Int), v3 = .int .i64 x3_1 ∧ v21 = .int .i64 x21_1 ∧ Aside0 (wkb_size.l0 kq x3_1 l0_2 (l0_2.length : Int) x21_1 = some r) ∧ Aside0 (kq ≤ k) ∧ Aside0 (w'.heap[gb189]? = some (.cells #[.int .i64 a0_0, (.slice A0_1 l0_1.length c0_1), (.slice A0_2 l0_2.length c0_2), (.slice A0_3 l0_3.length c0_3)] 28 (0, 0))) ∧ Aside0 (Below w.heap.size w w'))
      case atStart => exact ⟨(5 + 4), (0), (by first | rfl | (simp; done) | (simp [*]; done)), (by first | rfl | (simp; done) | (simp [*]; done)), H', ⟨Nat.le_refl _⟩, ⟨by (with_reducible repeat (first | refine blk_drewN ?_ _ | refine blk_drew ?_ | refine blk_alloc ?_ _)); exact BK189.out⟩, ⟨by repeat (first | (with_reducible first | exact HB.out | apply below_alloc | apply pw_below_drewN | apply below_drew1 | refine below_set ?_ GE189.out) | exact HB.out)⟩⟩
      case round =>
        clear H'
        try clear c2
        try clear c2b0
        try clear c2b1
        try clear p2
        try clear c5
        try clear c5b0
        try clear c5b1
        try clear p6
        try clear hcz4_0
        try clear hcz4_1
        try clear hcz4_2
        try clear hcz4_3
        try clear hcz7_0
        try clear hcz7_1
        try clear hcz7_2
        try clear hcz7_3
        try clear hfz4_0
        try clear hfz4_1
        try clear hfz4_2
        try clear hfz4_3
        try clear hfz7_0
        try clear hfz7_1
        try clear hfz7_2
        try clear hfz7_3
        obtain ⟨x3_1, x21_1, rfl, rfl, HA, HK1, BK189, HB⟩ := hrel
        cases gk with
        | zero => exact absurd HA.out (by simp [wkb_size.l0])
        | succ k1 =>
          have H := HA.out
          clear HA
          simp only [wkb_size.l0] at H
          by_cases c8 : x21_1 < (l0_2.length : Int)
          · rw [if_pos c8] at H
            have c8b0 : decide (x21_1 < (l0_2.length : Int)) = true := decide_eq_true c8
            clear c8
            by_cases c9 : 0 ≤ x21_1
            · rw [if_pos c9] at H
              have c9b0 : decide (0 ≤ x21_1) = true := decide_eq_true c9
              clear c9
              by_cases c10 : x21_1 < (l0_2.length : Int)
              · rw [if_pos c10] at H
                have c10b0 : decide (x21_1 < (l0_2.length : Int)) = true := decide_eq_true c10
                clear c10
                have H' := Aside0.mk H
                clear H
                have p190 : 0 ≤ (x21_1 : Int) := of_decide_eq_true (by first | (with_reducible assumption) | assumption)
                have q190 : x21_1 < (l0_2.length : Int) := of_decide_eq_true (by first | (with_reducible assumption) | assumption)
                obtain ⟨ad190, A190_0, c190_0, e190, hx190_0, hl190_0, hi190_0⟩ := at_L2 HR0_2.out x21_1 p190 q190
                cases e190
                replace hx190_0 := (HB.out.cell (World.block_lt_of_cell? w _ hx190_0)).trans hx190_0
                have HR190_0 := Aside0.mk hi190_0
                have HC190_0 := Aside0.mk hl190_0
                clear hi190_0 hl190_0
                replace p190 := eq_true p190
                replace q190 := eq_true q190
                go_wp2
                go_roundg k1
                case measure => have := HK1.out; omega
                case rel => exact ⟨(wrap64 (x3_1 + (wrap64 (4 + (wrap64 (16 * ((rd_L2 l0_2 x21_1).length : Int))))))), (wrap64 (x21_1 + 1)), (by first | rfl | (simp; done) | (simp [*]; done)), (by first | rfl | (simp; done) | (simp [*]; done)), H', ⟨by have := HK1.out; omega⟩, ⟨by (with_reducible repeat (first | refine blk_drewN ?_ _ | refine blk_drew ?_ | refine blk_alloc ?_ _)); exact BK189.out⟩, ⟨by repeat (first | (with_reducible first | exact HB.out | apply below_alloc | apply pw_below_drewN | apply below_drew1 | refine below_set ?_ GE189.out) | exact HB.out)⟩⟩
              · rw [if_neg c10] at H
                exact absurd H (by simp)
            · rw [if_neg c9] at H
              exact absurd H (by simp)
          · rw [if_neg c8] at H
            have c8b0 : decide (x21_1 < (l0_2.length : Int)) = false := decide_eq_false c8
            clear c8
            obtain rfl := Option.some.inj H
            go_wp2
            go_ret
            exact ⟨by first | rfl | (simp [errW_none, errW_some] <;> rfl) | (simp [*, errW_none, errW_some] <;> rfl), by repeat (first | (with_reducible first | exact HB.out | apply below_alloc | apply pw_below_drewN | apply below_drew1 | refine below_set ?_ GE189.out) | exact HB.out)⟩
    · rw [if_neg c5] at H
      have c5b0 : (a0_0 == 3) = false := beq_eq_false_iff_ne.mpr c5
      have c5b1 : (a0_0 != 3) = true := bne_iff_ne.mpr c5
      have H' := Aside0.mk H
      clear H
      go_enter Try.func28, Try.ntmps28
      go_wp2_with (first | ((with_reducible refine gate_dst (N := 1) rfl ?_); refine box_event ?hg (N := 1) ?hd (cs := #[.int .i64 a0_0, .slice A0_1 l0_1.length c0_1, .slice A0_2 l0_2.length c0_2, .slice A0_3 l0_3.length c0_3]) (t := 28) ?hr ?_; (case hd => rfl); (case hg => rfl); (case hr => first | (go_simp; done) | (go_simp; rfl)); intro gb189 hg w11 hbox hb; have n0_ := Aside0.mk (below_step (by repeat (first | (with_reducible first | exact HB.out | apply below_alloc | apply pw_below_drewN | apply below_drew1) | exact HB.out)) hb); have n1_ := Aside0.mk (hbox); have n2_ := Aside0.mk ((by rw [hg]; exact (below_size (by repeat (first | (with_reducible first | exact HB.out | apply below_alloc | apply pw_below_drewN | apply below_drew1) | exact HB.out))) : w.heap.size ≤ gb189)); have n3_ := Aside0.mk ((by rw [hg]; exact (below_size (by repeat (first | (with_reducible first | exact HB.out | apply below_alloc | apply pw_below_drewN | apply below_drew1) | exact HB.out))) : w.heap.size ≤ gb189)); clear HB; have HB := n0_; have BK189 := n1_; have GW189 := n2_; have GE189 := n3_; clear n0_ n1_ n2_ n3_; clear hb hbox hg; have hcz12_0 : w11.cell? ⟨gb189, 0, none⟩ = some (.int .i64 a0_0) := (blk_cell BK189.out 0).trans rfl; have hcz12_1 : w11.cell? ⟨gb189, 1, none⟩ = some (.slice A0_1 l0_1.length c0_1) := (blk_cell BK189.out 1).trans rfl; have hcz12_2 : w11.cell? ⟨gb189, 2, none⟩ = some (.slice A0_2 l0_2.length c0_2) := (blk_cell BK189.out 2).trans rfl; have hcz12_3 : w11.cell? ⟨gb189, 3, none⟩ = some (.slice A0_3 l0_3.length c0_3) := (blk_cell BK189.out 3).trans rfl; have hfz12_0 := blk_frozen BK189.out 0; have hfz12_1 := blk_frozen BK189.out 1; have hfz12_2 := blk_frozen BK189.out 2; have hfz12_3 := blk_frozen BK189.out 3))
      go_loopg [3, 43] k (fun kq v3 v43 w' => ∃ (x3_1 : Int) (x43_1 : Int), v3 = .int .i64 x3_1 ∧ v43 = .int .i64 x43_1 ∧ Aside0 (wkb_size.l1 kq x3_1 l0_3 (l0_3.length : Int) x43_1 = some r) ∧ Aside0 (kq ≤ k) ∧ Aside0 (w'.heap[gb189]? = some (.cells #[.int .i64 a0_0, (.slice A0_1 l0_1.length c0_1), (.slice A0_2 l0_2.length c0_2), (.slice A0_3 l0_3.length c0_3)] 28 (0, 0))) ∧ Aside0 (Below w.heap.size w w'))
      case atStart => exact ⟨(wrap64 (5 + (wrap64 (4 + (wrap64 (16 * (l0_1.length : Int))))))), (0), (by first | rfl | (simp; done) | (simp [*]; done)), (by first | rfl | (simp; done) | (simp [*]; done)), H', ⟨Nat.le_refl _⟩, ⟨by (with_reducible repeat (first | refine blk_drewN ?_ _ | refine blk_drew ?_ | refine blk_alloc ?_ _)); exact BK189.out⟩, ⟨by repeat (first | (with_reducible first | exact HB.out | apply below_alloc | apply pw_below_drewN | apply below_drew1 | refine below_set ?_ GE189.out) | exact HB.out)⟩⟩
      case round =>
        clear H'
        try clear c1
        try clear p1
        try clear q1
        try clear hx1
        try clear c2
        try clear c2b0
        try clear c2b1
        try clear p2
        try clear c5
        try clear c5b0
        try clear c5b1
        try clear p6
        try clear c8
        try clear c8b0
        try clear c9
        try clear c9b0
        try clear c10
        try clear c10b0
        try clear hcz12_0
        try clear hcz12_1
        try clear hcz12_2
        try clear hcz12_3
        try clear hcz4_0
        try clear hcz4_1
        try clear hcz4_2
        try clear hcz4_3
        try clear hcz7_0
        try clear hcz7_1
        try clear hcz7_2
        try clear hcz7_3
        try clear hfz12_0
        try clear hfz12_1
        try clear hfz12_2
        try clear hfz12_3
        try clear hfz4_0
        try clear hfz4_1
        try clear hfz4_2
        try clear hfz4_3
        try clear hfz7_0
        try clear hfz7_1
        try clear hfz7_2
        try clear hfz7_3
        try clear hx190_0
        try clear p190
        try clear p2
        try clear p6
        try clear q190
        obtain ⟨x3_1, x43_1, rfl, rfl, HA, HK1, BK189, HB⟩ := hrel
        cases gk with
        | zero => exact absurd HA.out (by simp [wkb_size.l1])
        | succ k1 =>
          have H := HA.out
          clear HA
          simp only [wkb_size.l1] at H
          by_cases c13 : x43_1 < (l0_3.length : Int)
          · rw [if_pos c13] at H
            have c13b0 : decide (x43_1 < (l0_3.length : Int)) = true := decide_eq_true c13
            clear c13
            by_cases c14 : 0 ≤ x43_1
            · rw [if_pos c14] at H
              have c14b0 : decide (0 ≤ x43_1) = true := decide_eq_true c14
              clear c14
              by_cases c15 : x43_1 < (l0_3.length : Int)
              · rw [if_pos c15] at H
                have c15b0 : decide (x43_1 < (l0_3.length : Int)) = true := decide_eq_true c15
                clear c15
                replace H := Option.bind_eq_some_iff.mp H
                obtain ⟨t193, A160, H⟩ := H
                replace H : (wkb_size.l1 k1 (wrap64 (x3_1 + t193)) l0_3 (l0_3.length : Int) (wrap64 (x43_1 + 1))) = some r := H
                have A16 := Aside0.mk A160
                clear A160
                have H' := Aside0.mk H
                clear H
                have p191 : 0 ≤ (x43_1 : Int) := of_decide_eq_true (by first | (with_reducible assumption) | assumption)
                have q191 : x43_1 < (l0_3.length : Int) := of_decide_eq_true (by first | (with_reducible assumption) | assumption)
                obtain ⟨ad191, A191_1, c191_1, A191_2, c191_2, A191_3, c191_3, e191, hx191_0, hx191_1, hx191_2, hx191_3, hl191_1, hi191_1, hl191_2, hi191_2, hl191_3, hi191_3⟩ := at_T28 HR0_3.out x43_1 p191 q191
                cases e191
                replace hx191_0 := (HB.out.cell (World.block_lt_of_cell? w _ hx191_0)).trans hx191_0
                replace hx191_1 := (HB.out.cell (World.block_lt_of_cell? w _ hx191_1)).trans hx191_1
                replace hx191_2 := (HB.out.cell (World.block_lt_of_cell? w _ hx191_2)).trans hx191_2
                replace hx191_3 := (HB.out.cell (World.block_lt_of_cell? w _ hx191_3)).trans hx191_3
                have HR191_1 := Aside0.mk hi191_1
                have HC191_1 := Aside0.mk hl191_1
                clear hi191_1 hl191_1
                have HR191_2 := Aside0.mk hi191_2
                have HC191_2 := Aside0.mk hl191_2
                clear hi191_2 hl191_2
                have HR191_3 := Aside0.mk hi191_3
                have HC191_3 := Aside0.mk hl191_3
                clear hi191_3 hl191_3
                replace p191 := eq_true p191
                replace q191 := eq_true q191
                go_wp2_with (first | ((with_reducible refine gate_dst (N := 7) rfl ?_); refine box_event ?hg (N := 7) ?hd (cs := #[.int .i64 0, .slice none 0 0, .slice none 0 0, .slice none 0 0]) (t := 28) ?hr ?_; (case hd => rfl); (case hg => rfl); (case hr => first | (go_simp; done) | (go_simp; rfl)); intro gb192 hg w17 hbox hb; have n0_ := Aside0.mk (blk_below (g := gb189) (o := .cells #[.int .i64 a0_0, .slice A0_1 l0_1.length c0_1, .slice A0_2 l0_2.length c0_2, .slice (some ad191) l0_3.length c0_3] 28 (0, 0)) (by (with_reducible repeat (first | refine blk_drewN ?_ _ | refine blk_drew ?_ | refine blk_alloc ?_ _)); exact BK189.out) hb); have n1_ := Aside0.mk (below_step (by repeat (first | (with_reducible first | exact HB.out | apply below_alloc | apply pw_below_drewN | apply below_drew1 | refine below_set ?_ GE189.out) | exact HB.out)) hb); have n2_ := Aside0.mk (hbox); have n3_ := Aside0.mk ((by rw [hg]; exact (below_size (by repeat (first | (with_reducible first | exact HB.out | apply below_alloc | apply pw_below_drewN | apply below_drew1 | refine below_set ?_ GE189.out) | exact HB.out))) : w.heap.size ≤ gb192)); have n4_ := Aside0.mk ((by rw [hg]; exact (below_size (by repeat (first | (with_reducible first | exact HB.out | apply below_alloc | apply pw_below_drewN | apply below_drew1 | refine below_set ?_ GE189.out) | exact HB.out))) : w.heap.size ≤ gb192)); have n5_ := Aside0.mk ((by rw [hg]; exact Nat.ne_of_lt (blk_lt (g := gb189) (o := .cells #[.int .i64 a0_0, .slice A0_1 l0_1.length c0_1, .slice A0_2 l0_2.length c0_2, .slice (some ad191) l0_3.length c0_3] 28 (0, 0)) (by (with_reducible repeat (first | refine blk_drewN ?_ _ | refine blk_drew ?_ | refine blk_alloc ?_ _)); exact BK189.out)) : gb189 ≠ gb192)); have n6_ := Aside0.mk ((by rw [hg]; exact Nat.ne_of_gt (blk_lt (g := gb189) (o := .cells #[.int .i64 a0_0, .slice A0_1 l0_1.length c0_1, .slice A0_2 l0_2.length c0_2, .slice (some ad191) l0_3.length c0_3] 28 (0, 0)) (by (with_reducible repeat (first | refine blk_drewN ?_ _ | refine blk_drew ?_ | refine blk_alloc ?_ _)); exact BK189.out)) : gb192 ≠ gb189)); clear BK189; clear HB; have BK189 := n0_; have HB := n1_; have BK192 := n2_; have GW192 := n3_; have GE192 := n4_; have NB189_192 := n5_; have NB192_189 := n6_; clear n0_ n1_ n2_ n3_ n4_ n5_ n6_; clear hb hbox hg; have hnb18 := NB192_189.out; have hnc18 := NB189_192.out; have hcz19_0 : w17.cell? ⟨gb192, 0, none⟩ = some (.int .i64 0) := (blk_cell BK192.out 0).trans rfl; have hcz19_1 : w17.cell? ⟨gb192, 1, none⟩ = some (.slice none 0 0) := (blk_cell BK192.out 1).trans rfl; have hcz19_2 : w17.cell? ⟨gb192, 2, none⟩ = some (.slice none 0 0) := (blk_cell BK192.out 2).trans rfl; have hcz19_3 : w17.cell? ⟨gb192, 3, none⟩ = some (.slice none 0 0) := (blk_cell BK192.out 3).trans rfl; have hfz19_0 := blk_frozen BK192.out 0; have hfz19_1 := blk_frozen BK192.out 1; have hfz19_2 := blk_frozen BK192.out 2; have hfz19_3 := blk_frozen BK192.out 3) | ((with_reducible refine gate_callee (f := 28) rfl ?_); refine goesL_ (some 49) rfl rfl Try.func28 (by kernel_rfl) rfl #[.agg #[.int .i64 ((rd_T28 l0_3 x43_1).f0), .slice A191_1 ((rd_T28 l0_3 x43_1).f1).length c191_1, .slice A191_2 ((rd_T28 l0_3 x43_1).f2).length c191_2, .slice A191_3 ((rd_T28 l0_3 x43_1).f3).length c191_3]] rfl (by (try simp only [List.map_toArray, List.map_cons, List.map_nil]); first | done | rfl | (simp only [List.length_drop, List.length_take]; rfl)) ?_; (with_reducible refine (ih k1 (by have := HK1.out; omega) ((rd_T28 l0_3 x43_1).f0) _ _ ((rd_T28 l0_3 x43_1).f1) _ _ ((rd_T28 l0_3 x43_1).f2) _ _ ((rd_T28 l0_3 x43_1).f3) t193 _ ?side1 ?side2 ?side3 ?side4 ?side5 ?side6 A16.out).mono ?_); (case side1 => exact Kd.C_below HR191_1.out (by repeat (first | (with_reducible first | exact HB.out | apply below_alloc | apply pw_below_drewN | apply below_drew1 | refine below_set ?_ GE189.out | refine below_set ?_ GE192.out) | exact HB.out))); (case side2 => exact HC191_1.out); (case side3 => exact Kd.C_below HR191_2.out (by repeat (first | (with_reducible first | exact HB.out | apply below_alloc | apply pw_below_drewN | apply below_drew1 | refine below_set ?_ GE189.out | refine below_set ?_ GE192.out) | exact HB.out))); (case side4 => exact HC191_2.out); (case side5 => exact Kd.C_below HR191_3.out (by repeat (first | (with_reducible first | exact HB.out | apply below_alloc | apply pw_below_drewN | apply below_drew1 | refine below_set ?_ GE189.out | refine below_set ?_ GE192.out) | exact HB.out))); (case side6 => exact HC191_3.out); rintro e w20 ⟨rfl, hb⟩; refine ⟨_, rfl, ?_⟩; have n0_ := Aside0.mk (blk_below (g := gb189) (o := .cells #[.int .i64 a0_0, .slice A0_1 l0_1.length c0_1, .slice A0_2 l0_2.length c0_2, .slice (some ad191) l0_3.length c0_3] 28 (0, 0)) (by (with_reducible repeat (first | refine blk_drewN ?_ _ | refine blk_drew ?_ | refine blk_alloc ?_ _)); refine blk_far ?_ NB189_192.out _; (with_reducible repeat (first | refine blk_drewN ?_ _ | refine blk_drew ?_ | refine blk_alloc ?_ _)); refine blk_far ?_ NB189_192.out _; (with_reducible repeat (first | refine blk_drewN ?_ _ | refine blk_drew ?_ | refine blk_alloc ?_ _)); refine blk_far ?_ NB189_192.out _; (with_reducible repeat (first | refine blk_drewN ?_ _ | refine blk_drew ?_ | refine blk_alloc ?_ _)); refine blk_far ?_ NB189_192.out _; (with_reducible repeat (first | refine blk_drewN ?_ _ | refine blk_drew ?_ | refine blk_alloc ?_ _)); exact BK189.out) hb); have n1_ := Aside0.mk (blk_below (g := gb192) (o := .cells #[.int .i64 ((rd_T28 l0_3 x43_1).f0), .slice A191_1 ((rd_T28 l0_3 x43_1).f1).length c191_1, .slice A191_2 ((rd_T28 l0_3 x43_1).f2).length c191_2, .slice A191_3 ((rd_T28 l0_3 x43_1).f3).length c191_3] 28 (0, 0)) (by (with_reducible repeat (first | refine blk_drewN ?_ _ | refine blk_drew ?_ | refine blk_alloc ?_ _)); refine blk_put (cs := #[.int .i64 ((rd_T28 l0_3 x43_1).f0), .slice A191_1 ((rd_T28 l0_3 x43_1).f1).length c191_1, .slice A191_2 ((rd_T28 l0_3 x43_1).f2).length c191_2, .slice none 0 0]) ?_ 3 _ rfl; (with_reducible repeat (first | refine blk_drewN ?_ _ | refine blk_drew ?_ | refine blk_alloc ?_ _)); refine blk_put (cs := #[.int .i64 ((rd_T28 l0_3 x43_1).f0), .slice A191_1 ((rd_T28 l0_3 x43_1).f1).length c191_1, .slice none 0 0, .slice none 0 0]) ?_ 2 _ rfl; (with_reducible repeat (first | refine blk_drewN ?_ _ | refine blk_drew ?_ | refine blk_alloc ?_ _)); refine blk_put (cs := #[.int .i64 ((rd_T28 l0_3 x43_1).f0), .slice none 0 0, .slice none 0 0, .slice none 0 0]) ?_ 1 _ rfl; (with_reducible repeat (first | refine blk_drewN ?_ _ | refine blk_drew ?_ | refine blk_alloc ?_ _)); refine blk_put (cs := #[.int .i64 0, .slice none 0 0, .slice none 0 0, .slice none 0 0]) ?_ 0 _ rfl; (with_reducible repeat (first | refine blk_drewN ?_ _ | refine blk_drew ?_ | refine blk_alloc ?_ _)); exact BK192.out) hb); have n2_ := Aside0.mk (below_step (by repeat (first | (with_reducible first | exact HB.out | apply below_alloc | apply pw_below_drewN | apply below_drew1 | refine below_set ?_ GE189.out | refine below_set ?_ GE192.out) | exact HB.out)) hb); clear BK189; clear BK192; clear HB; have BK189 := n0_; have BK192 := n1_; have HB := n2_; clear n0_ n1_ n2_; (try clear hb); (try clear hb2); (try clear hk); (try clear hi)))
                go_roundg k1
                case measure => have := HK1.out; omega
                case rel => exact ⟨(wrap64 (x3_1 + t193)), (wrap64 (x43_1 + 1)), (by first | rfl | (simp; done) | (simp [*]; done)), (by first | rfl | (simp; done) | (simp [*]; done)), H', ⟨by have := HK1.out; omega⟩, ⟨by (with_reducible repeat (first | refine blk_drewN ?_ _ | refine blk_drew ?_ | refine blk_alloc ?_ _)); exact BK189.out⟩, ⟨by repeat (first | (with_reducible first | exact HB.out | apply below_alloc | apply pw_below_drewN | apply below_drew1 | refine below_set ?_ GE189.out | refine below_set ?_ GE192.out) | exact HB.out)⟩⟩
              · rw [if_neg c15] at H
                exact absurd H (by simp)
            · rw [if_neg c14] at H
              exact absurd H (by simp)
          · rw [if_neg c13] at H
            have c13b0 : decide (x43_1 < (l0_3.length : Int)) = false := decide_eq_false c13
            clear c13
            obtain rfl := Option.some.inj H
            go_wp2
            go_ret
            exact ⟨by first | rfl | (simp [errW_none, errW_some] <;> rfl) | (simp [*, errW_none, errW_some] <;> rfl), by repeat (first | (with_reducible first | exact HB.out | apply below_alloc | apply pw_below_drewN | apply below_drew1 | refine below_set ?_ GE189.out) | exact HB.out)⟩

-- NOT PRINTED: function 15 (wkb_Size)

-- NOT PRINTED: function 16 (tree_Count)

-- NOT PRINTED: function 17 (tree_Depth)

-- NOT PRINTED: function 4 (plumblaw17_WkbBack)


def plumblaw17_same.l0 : Nat → List Int → List Int → Int → Option (Bool)
  | 0, _, _, _ => none
  | k + 1, x0, x1, x5 => if x5 < (x0.length : Int) then (if 0 ≤ x5 then (if x5 < (x1.length : Int) then (if (rd x0 x5) = (rd x1 x5) then (plumblaw17_same.l0 k x0 x1 (wrap64 (x5 + 1))) else (some false)) else (none)) else (none)) else (some true)
def plumblaw17_same.f (k : Nat) (l0 : List Int) (l1 : List Int) : Option (Bool) := if (l0.length : Int) = (l1.length : Int) then (plumblaw17_same.l0 k l0 l1 0) else (some false)
theorem plumblaw17_same.mono_l : ∀ k, (∀ y0 y1 y2, LeO (plumblaw17_same.l0 k y0 y1 y2) (plumblaw17_same.l0 (k + 1) y0 y1 y2))
  | 0 => fun _ _ _ r h => by simp [plumblaw17_same.l0] at h
  | k + 1 => by
    have ih0 := plumblaw17_same.mono_l k
    · intro y0 y1 y2
      unfold plumblaw17_same.l0
      repeat' first
      | (with_reducible exact ih0 _ _ _)
      | (with_reducible exact LeO.refl _)
      | (with_reducible exact LeO.none _)
      | (with_reducible refine LeO.ite ?_ ?_)
      | (with_reducible refine LeO.bind ?_ (fun _ => ?_))
      | exact ih0 _ _ _
      | exact LeO.none _
      | refine LeO.ite ?_ ?_
      | refine LeO.bind ?_ (fun _ => ?_)
theorem plumblaw17_same.mono : ∀ a0 a1 k, LeO (plumblaw17_same.f k a0 a1) (plumblaw17_same.f (k + 1) a0 a1) := by
  intro a0 a1 k
  have ih0 := plumblaw17_same.mono_l k
  unfold plumblaw17_same.f
  repeat' first
      | (with_reducible exact ih0 _ _ _)
      | (with_reducible exact LeO.refl _)
      | (with_reducible exact LeO.none _)
      | (with_reducible refine LeO.ite ?_ ?_)
      | (with_reducible refine LeO.bind ?_ (fun _ => ?_))
      | exact ih0 _ _ _
      | exact LeO.none _
      | refine LeO.ite ?_ ?_
      | refine LeO.bind ?_ (fun _ => ?_)
set_option maxHeartbeats 8000000 in
set_option maxRecDepth 100000 in
theorem plumblaw17_same.calls (k : Nat) (A0 : Option Addr) (c0 : Nat) (l0 : List Int) (A1 : Option Addr) (c1 : Nat) (l1 : List Int) (r : Bool) (w : World) (hr0 : Kd.C (Kd.int .u8) w A0 l0.length l0) (hc0 : l0.length ≤ c0) (hr1 : Kd.C (Kd.int .u8) w A1 l1.length l1) (hc1 : l1.length ≤ c1) (h : plumblaw17_same.f k l0 l1 = some r) :
    Calls Try.prog 14 #[.slice A0 l0.length c0, .slice A1 l1.length c1] w fun e w' => e = .returned (.bool r) ∧ Drawn0 w w' := by
  have HR0 := Aside0.mk hr0
  have HC0 := Aside0.mk hc0
  clear hr0 hc0
  have HR1 := Aside0.mk hr1
  have HC1 := Aside0.mk hc1
  clear hr1 hc1
  have H : (if (l0.length : Int) = (l1.length : Int) then (plumblaw17_same.l0 k l0 l1 0) else (some false)) = some r := h
  clear h
  by_cases c3 : (l0.length : Int) = (l1.length : Int)
  · rw [if_pos c3] at H
    have c3b0 : ((l0.length : Int) == (l1.length : Int)) = true := beq_iff_eq.mpr c3
    have c3b1 : ((l0.length : Int) != (l1.length : Int)) = false := bne_eq_false_iff_eq.mpr c3
    have c3b2 : (l0.length == l1.length) = true := by first | simpa using c3 | (simp at c3 ⊢; omega)
    clear c3
    have H' := Aside0.mk H
    clear H
    go_enter Try.func14, Try.ntmps14
    go_wp2
    repeat (go_quiet (fail); try go_wp2)
    go_loopg [5] k (fun kq v5 w' => ∃ (x5_1 : Int), v5 = .int .i64 x5_1 ∧ Aside0 (plumblaw17_same.l0 kq l0 l1 x5_1 = some r) ∧ Aside0 (kq ≤ k) ∧ Drawn0 w w')
    case atStart => exact ⟨(0), (by first | rfl | (simp; done) | (simp [*]; done)), H', ⟨Nat.le_refl _⟩, by repeat (first | exact Drawn0.refl _ | apply Drawn0.step)⟩
    case round =>
      clear H'
      try clear c1
      try clear p2
      try clear c3
      try clear c3b0
      try clear c3b1
      try clear c3b2
      obtain ⟨x5_1, rfl, HA, HK1, ⟨m1, rfl⟩⟩ := hrel
      cases gk with
      | zero => exact absurd HA.out (by simp [plumblaw17_same.l0])
      | succ k1 =>
        have H := HA.out
        clear HA
        simp only [plumblaw17_same.l0] at H
        by_cases c4 : x5_1 < (l0.length : Int)
        · rw [if_pos c4] at H
          have c4b0 : decide (x5_1 < (l0.length : Int)) = true := decide_eq_true c4
          clear c4
          by_cases c5 : 0 ≤ x5_1
          · rw [if_pos c5] at H
            have c5b0 : decide (0 ≤ x5_1) = true := decide_eq_true c5
            clear c5
            by_cases c6 : x5_1 < (l1.length : Int)
            · rw [if_pos c6] at H
              have c6b0 : decide (x5_1 < (l1.length : Int)) = true := decide_eq_true c6
              clear c6
              by_cases c7 : (rd l0 x5_1) = (rd l1 x5_1)
              · rw [if_pos c7] at H
                have c7b0 : ((rd l0 x5_1) == (rd l1 x5_1)) = true := beq_iff_eq.mpr c7
                have c7b1 : ((rd l0 x5_1) != (rd l1 x5_1)) = false := bne_eq_false_iff_eq.mpr c7
                clear c7
                have H' := Aside0.mk H
                clear H
                have p187 : 0 ≤ (x5_1 : Int) := of_decide_eq_true (by first | (with_reducible assumption) | assumption)
                have q187 : x5_1 < (l0.length : Int) := of_decide_eq_true (by first | (with_reducible assumption) | assumption)
                obtain ⟨ad187, e187, hx187_0⟩ := Kd.at_int HR0.out x5_1 p187 q187
                cases e187
                replace p187 := eq_true p187
                replace q187 := eq_true q187
                have p188 : 0 ≤ (x5_1 : Int) := of_decide_eq_true (by first | (with_reducible assumption) | assumption)
                have q188 : x5_1 < (l1.length : Int) := of_decide_eq_true (by first | (with_reducible assumption) | assumption)
                obtain ⟨ad188, e188, hx188_0⟩ := Kd.at_int HR1.out x5_1 p188 q188
                cases e188
                replace p188 := eq_true p188
                replace q188 := eq_true q188
                go_wp2
                repeat (go_quiet (fail); try go_wp2)
                go_roundg k1
                case measure => have := HK1.out; omega
                case rel => exact ⟨(wrap64 (x5_1 + 1)), (by first | rfl | (simp; done) | (simp [*]; done)), H', ⟨by have := HK1.out; omega⟩, by repeat (first | exact Drawn0.refl _ | apply Drawn0.step)⟩
              · rw [if_neg c7] at H
                have c7b0 : ((rd l0 x5_1) == (rd l1 x5_1)) = false := beq_eq_false_iff_ne.mpr c7
                have c7b1 : ((rd l0 x5_1) != (rd l1 x5_1)) = true := bne_iff_ne.mpr c7
                obtain rfl := Option.some.inj H
                have p187 : 0 ≤ (x5_1 : Int) := of_decide_eq_true (by first | (with_reducible assumption) | assumption)
                have q187 : x5_1 < (l0.length : Int) := of_decide_eq_true (by first | (with_reducible assumption) | assumption)
                obtain ⟨ad187, e187, hx187_0⟩ := Kd.at_int HR0.out x5_1 p187 q187
                cases e187
                replace p187 := eq_true p187
                replace q187 := eq_true q187
                have p188 : 0 ≤ (x5_1 : Int) := of_decide_eq_true (by first | (with_reducible assumption) | assumption)
                have q188 : x5_1 < (l1.length : Int) := of_decide_eq_true (by first | (with_reducible assumption) | assumption)
                obtain ⟨ad188, e188, hx188_0⟩ := Kd.at_int HR1.out x5_1 p188 q188
                cases e188
                replace p188 := eq_true p188
                replace q188 := eq_true q188
                go_wp2
                repeat (go_quiet (fail); try go_wp2)
                go_ret
                exact ⟨by first | rfl | (simp; done) | (simp [*]; done), by repeat (first | exact Drawn0.refl _ | apply Drawn0.step)⟩
            · rw [if_neg c6] at H
              exact absurd H (by simp)
          · rw [if_neg c5] at H
            exact absurd H (by simp)
        · rw [if_neg c4] at H
          have c4b0 : decide (x5_1 < (l0.length : Int)) = false := decide_eq_false c4
          clear c4
          obtain rfl := Option.some.inj H
          go_wp2
          repeat (go_quiet (fail); try go_wp2)
          go_ret
          exact ⟨by first | rfl | (simp; done) | (simp [*]; done), by repeat (first | exact Drawn0.refl _ | apply Drawn0.step)⟩
  · rw [if_neg c3] at H
    have c3b0 : ((l0.length : Int) == (l1.length : Int)) = false := beq_eq_false_iff_ne.mpr c3
    have c3b1 : ((l0.length : Int) != (l1.length : Int)) = true := bne_iff_ne.mpr c3
    have c3b2 : (l0.length == l1.length) = false := by first | simpa using c3 | (simp at c3 ⊢; omega)
    obtain rfl := Option.some.inj H
    go_enter Try.func14, Try.ntmps14
    go_wp2
    repeat (go_quiet (fail); try go_wp2)
    go_ret
    exact ⟨by first | rfl | (simp; done) | (simp [*]; done), by repeat (first | exact Drawn0.refl _ | apply Drawn0.step)⟩


end Go.Proofs.Ytiiolhnpnlmkjaa.PWkbPrints
namespace Go.Proofs.Ytiiolhnpnlmkjaa.Tree
open Go.RowKit Go.Proofs.Ytiiolhnpnlmkjaa.PWkbPrints Go.Proofs.YtiiolhnpnlmkjaaW.PrintWords Go.Proofs.YtiiolhnpnlmkjaaW.PrintLast Go.Proofs.YtiiolhnpnlmkjaaW.PrintMore
theorem same_l0 (xs : List Int) (hl : xs.length ≤ 140737488355328) (d : Nat) : ∀ k i : Nat, xs.length = i + d → d < k → plumblaw17_same.l0 k xs xs (i : Int) = some true := by
  induction d with
  | zero =>
    intro k i h hk
    obtain ⟨k, rfl⟩ : ∃ m, k = m + 1 := ⟨k - 1, by omega⟩
    simp only [plumblaw17_same.l0]
    rw [if_neg (by omega)]
  | succ d ih =>
    intro k i h hk
    obtain ⟨k, rfl⟩ : ∃ m, k = m + 1 := ⟨k - 1, by omega⟩
    simp only [plumblaw17_same.l0]
    rw [if_pos (by omega), if_pos (by omega), if_pos (by omega), if_pos trivial, show wrap64 ((i : Int) + 1) = ((i + 1 : Nat) : Int) from by unfold wrap64; omega]
    exact ih k (i + 1) (by omega) (by omega)
theorem same_spec (xs ys : List Int) (k : Nat) (e : ys = xs) (hl : xs.length ≤ 140737488355328) (hk : xs.length < k) : plumblaw17_same.f k xs ys = some true := by
  subst e
  unfold plumblaw17_same.f
  rw [if_pos rfl]
  exact same_l0 ys hl ys.length k 0 (by omega) hk

theorem same_ok (A : Option Addr) (c : Nat) (l : List Int) (A2 : Option Addr) (c2 : Nat) (W : World) (hC : kB.C W A l.length l) (hc : l.length ≤ c) (h2 : kB.C W A2 l.length l) (hc2 : l.length ≤ c2) (hl : l.length ≤ 140737488355328) :
    Calls Try.prog 14 #[.slice A l.length c, .slice A2 l.length c2] W fun e W' => e = .returned (.bool true) ∧ Drawn0 W W' :=
  plumblaw17_same.calls (l.length + 1) A c l A2 c2 l true W hC hc h2 hc2 (same_spec l l _ rfl hl (by omega))
theorem sameb_calls (A : Option Addr) (c : Nat) (l : List Int) (A2 : Option Addr) (c2 : Nat) (W : World) (hC : kB.C W A l.length l) (hc : l.length ≤ c) (h2 : kB.C W A2 l.length l) (hc2 : l.length ≤ c2) (hl : l.length ≤ 140737488355328) :
    Calls Try.prog 14 #[.slice A l.length c, .slice A2 l.length c2] W fun e W' => e = .returned (.bool true) ∧ Below W.heap.size W W' := by
  refine (same_ok A c l A2 c2 W hC hc h2 hc2 hl).mono ?_
  rintro e w ⟨rfl, m, rfl⟩
  exact ⟨rfl, pw_below_drewN (Below.refl _ _) _⟩
end Go.Proofs.Ytiiolhnpnlmkjaa.Tree
namespace Go.Proofs.Ytiiolhnpnlmkjaa.PCt
open Go.RowKit Go.Proofs.YtiiolhnpnlmkjaaW.PrintWords Go.Proofs.YtiiolhnpnlmkjaaW.PrintLast Go.Proofs.YtiiolhnpnlmkjaaW.PrintMore Go.Proofs.Ytiiolhnpnlmkjaa.Tree
attribute [local go_sem] max2_int min2_int max_two min_two max_three min_three max_four min_four

theorem info5 : (Try.prog.info? 5).map (fun i => (i.zero, i.size, i.bytes)) = some (some (.int .u8 0), 1, 1) := by kernel_rfl
theorem info65 : (Try.prog.info? 65).map (fun i => (i.zero, i.size, i.bytes)) = some (some (.agg #[(.int .u64 0), (.int .u64 0)]), 2, 16) := by kernel_rfl
def plumblaw17_cut.l0 : Nat → List Int → List Int → Int → Option (List Int)
  | 0, _, _, _ => none
  | k + 1, x0, x3, x4 => if x4 < (x0.length : Int) then (if x4 < 1500 then (if 0 ≤ x4 then (if x3.length < 140737488355328 then (plumblaw17_cut.l0 k x0 (x3 ++ [rd x0 x4]) (wrap64 (x4 + 1))) else (none)) else (none)) else (some x3)) else (some x3)
def plumblaw17_cut.f (k : Nat) (l0 : List Int) : Option (List Int) := plumblaw17_cut.l0 k l0 ([] : List Int) 0
theorem plumblaw17_cut.mono_l : ∀ k, (∀ y0 y1 y2, LeO (plumblaw17_cut.l0 k y0 y1 y2) (plumblaw17_cut.l0 (k + 1) y0 y1 y2))
  | 0 => fun _ _ _ r h => by simp [plumblaw17_cut.l0] at h
  | k + 1 => by
    have ih0 := plumblaw17_cut.mono_l k
    · intro y0 y1 y2
      unfold plumblaw17_cut.l0
      repeat' first
      | (with_reducible exact ih0 _ _ _)
      | (with_reducible exact LeO.refl _)
      | (with_reducible exact LeO.none _)
      | (with_reducible refine LeO.ite ?_ ?_)
      | (with_reducible refine LeO.bind ?_ (fun _ => ?_))
      | exact ih0 _ _ _
      | exact LeO.none _
      | refine LeO.ite ?_ ?_
      | refine LeO.bind ?_ (fun _ => ?_)
theorem plumblaw17_cut.mono : ∀ a0 k, LeO (plumblaw17_cut.f k a0) (plumblaw17_cut.f (k + 1) a0) := by
  intro a0 k
  have ih0 := plumblaw17_cut.mono_l k
  unfold plumblaw17_cut.f
  repeat' first
      | (with_reducible exact ih0 _ _ _)
      | (with_reducible exact LeO.refl _)
      | (with_reducible exact LeO.none _)
      | (with_reducible refine LeO.ite ?_ ?_)
      | (with_reducible refine LeO.bind ?_ (fun _ => ?_))
      | exact ih0 _ _ _
      | exact LeO.none _
      | refine LeO.ite ?_ ?_
      | refine LeO.bind ?_ (fun _ => ?_)
set_option maxHeartbeats 8000000 in
set_option maxRecDepth 100000 in
theorem plumblaw17_cut.calls (k : Nat) (A0 : Option Addr) (c0 : Nat) (l0 : List Int) (r : List Int) (w : World) (hr0 : Kd.C (Kd.int .u8) w A0 l0.length l0) (hc0 : l0.length ≤ c0) (h : plumblaw17_cut.f k l0 = some r) :
    Calls Try.prog 8 #[.slice A0 l0.length c0] w fun e w' => ∃ v0_ : Value, e = .returned (v0_) ∧ Kd.R (Kd.int .u8) 5 w' w.heap.size (fun _ => True) v0_ r ∧ Below w.heap.size w w' := by
  have HR0 := Aside0.mk hr0
  have HC0 := Aside0.mk hc0
  clear hr0 hc0
  have HB := Aside0.mk (Below.refl w.heap.size w)
  have H : (plumblaw17_cut.l0 k l0 ([] : List Int) 0) = some r := h
  clear h
  have H' := Aside0.mk H
  clear H
  go_enter Try.func8, Try.ntmps8
  go_wp2
  go_loopg [3, 4] k (fun kq v3 v4 w' => ∃ (x3_1 : List Int) (x4_1 : Int), v4 = .int .i64 x4_1 ∧ Aside0 (plumblaw17_cut.l0 kq l0 x3_1 x4_1 = some r) ∧ Aside0 (kq ≤ k) ∧ Aside0 (Kd.R (Kd.int .u8) 5 w' w.heap.size (fun _ => True) v3 x3_1) ∧ Aside0 (Below w.heap.size w w'))
  case atStart => exact ⟨(([] : List Int)), (0), (by first | rfl | (simp; done) | (simp [*]; done)), H', ⟨Nat.le_refl _⟩, ⟨by first | exact Kd.R_nil _ _ _ _ _ | exact Kd.N_nil _ _ _ _ _ | exact Kd.V_nil _ _ _ _ _ | exact Kd.Q_nil _ _ _ _ _ | exact Kd.S_nil _ _ _ _ _⟩, ⟨by repeat (first | (with_reducible first | exact HB.out | apply below_alloc | apply pw_below_drewN | apply below_drew1) | exact HB.out)⟩⟩
  case round =>
    clear H'
    obtain ⟨x3_1, x4_1, rfl, HA, HK1, HO_3, HB⟩ := hrel
    cases gk with
    | zero => exact absurd HA.out (by simp [plumblaw17_cut.l0])
    | succ k1 =>
      have H := HA.out
      clear HA
      simp only [plumblaw17_cut.l0] at H
      by_cases c2 : x4_1 < (l0.length : Int)
      · rw [if_pos c2] at H
        have c2b0 : decide (x4_1 < (l0.length : Int)) = true := decide_eq_true c2
        clear c2
        by_cases c3 : x4_1 < 1500
        · rw [if_pos c3] at H
          have c3b0 : decide (x4_1 < 1500) = true := decide_eq_true c3
          clear c3
          by_cases c4 : 0 ≤ x4_1
          · rw [if_pos c4] at H
            have c4b0 : decide (0 ≤ x4_1) = true := decide_eq_true c4
            clear c4
            by_cases c5 : x3_1.length < 140737488355328
            · rw [if_pos c5] at H
              have LMc5 := Aside0.mk c5
              clear c5
              obtain ⟨y188, hy188⟩ : ∃ y_ : List Int, y_ = (x3_1 ++ [rd l0 x4_1]) := ⟨_, rfl⟩
              replace H : (plumblaw17_cut.l0 k1 l0 y188 (wrap64 (x4_1 + 1))) = some r := by first | (rw [hy188]; with_reducible exact H) | (have H2_ := (Option.bind_some _ _).symm.trans H; rw [hy188]; with_reducible exact H2_) | (have H2_ := (Option.bind_some _ _).symm.trans H; with_reducible exact H2_) | with_reducible exact H | (rw [hy188]; exact H) | exact H
              have Ny188 := Aside0.mk hy188
              clear hy188
              have H' := Aside0.mk H
              clear H
              have p187 : 0 ≤ (x4_1 : Int) := of_decide_eq_true (by first | (with_reducible assumption) | assumption)
              have q187 : x4_1 < (l0.length : Int) := of_decide_eq_true (by first | (with_reducible assumption) | assumption)
              obtain ⟨ad187, e187, hx187_0⟩ := Kd.at_int HR0.out x4_1 p187 q187
              cases e187
              replace hx187_0 := (HB.out.cell (World.block_lt_of_cell? w _ hx187_0)).trans hx187_0
              replace p187 := eq_true p187
              replace q187 := eq_true q187
              go_wp2_with (first | ((with_reducible refine gate_builtin (b := .append) (xs := #[.tmp 15, .tmp 20]) rfl ?_); at_builtin; refine Kd.R_append (Kd.int .u8) (w0 := w) w.heap.size rfl (.tmp 15) (.tmp 20) 23 5 (.int .u8 0) 1 rfl Try.underlying23 info5 rfl (by decide) (by omega) u3 x3_1 (rd l0 x4_1) [.int .u8 (rd l0 x4_1)] (fun _ => True) (fun _ => False) rfl rfl ?aP (fun _ hk => hk.elim) ?aF ?aO ?aB ?aS ?aL ?_; (case aP => exact rfl); (case aB => exact (by repeat (first | (with_reducible first | exact HB.out | apply below_alloc | apply pw_below_drewN | apply below_drew1) | exact HB.out))); (case aF => exact (fun _ _ => trivial)); (case aO => exact (by (with_reducible repeat (first | apply Kd.R_alloc | apply Kd.R_drewN | apply Kd.R_drew)); exact HO_3.out)); (case aS => exact (below_size (by repeat (first | (with_reducible first | exact HB.out | apply below_alloc | apply pw_below_drewN | apply below_drew1) | exact HB.out)))); (case aL => have := LMc5.out; omega); intro v189 w6 ho hb hg hat; rw [← Ny188.out] at ho; have n0_ := Aside0.mk (hb); have n1_ := Aside0.mk (ho); clear HB; clear HO_3; have HB := n0_; have HO190 := n1_; clear n0_ n1_; clear ho hb hg hat))
              go_roundg k1
              case measure => have := HK1.out; omega
              case rel => exact ⟨(y188), (wrap64 (x4_1 + 1)), (by first | rfl | (simp; done) | (simp [*]; done)), H', ⟨by have := HK1.out; omega⟩, ⟨by (with_reducible repeat (first | apply Kd.R_alloc | apply Kd.R_drewN | apply Kd.R_drew)); exact HO190.out⟩, ⟨by repeat (first | (with_reducible first | exact HB.out | apply below_alloc | apply pw_below_drewN | apply below_drew1) | exact HB.out)⟩⟩
            · rw [if_neg c5] at H
              exact absurd H (by simp)
          · rw [if_neg c4] at H
            exact absurd H (by simp)
        · rw [if_neg c3] at H
          have c3b0 : decide (x4_1 < 1500) = false := decide_eq_false c3
          clear c3
          obtain rfl := Option.some.inj H
          go_wp2
          go_ret
          exact ⟨_, by first | rfl | (simp [errW_none, errW_some] <;> rfl) | (simp [*, errW_none, errW_some] <;> rfl), by (with_reducible repeat (first | apply Kd.R_alloc | apply Kd.R_drewN | apply Kd.R_drew)); exact HO_3.out, by repeat (first | (with_reducible first | exact HB.out | apply below_alloc | apply pw_below_drewN | apply below_drew1) | exact HB.out)⟩
      · rw [if_neg c2] at H
        have c2b0 : decide (x4_1 < (l0.length : Int)) = false := decide_eq_false c2
        clear c2
        obtain rfl := Option.some.inj H
        go_wp2
        go_ret
        exact ⟨_, by first | rfl | (simp [errW_none, errW_some] <;> rfl) | (simp [*, errW_none, errW_some] <;> rfl), by (with_reducible repeat (first | apply Kd.R_alloc | apply Kd.R_drewN | apply Kd.R_drew)); exact HO_3.out, by repeat (first | (with_reducible first | exact HB.out | apply below_alloc | apply pw_below_drewN | apply below_drew1) | exact HB.out)⟩

-- NOT PRINTED: function 10 (wkb_Orders)

-- NOT PRINTED: function 13 (plumblaw17_Finder_walk)


end Go.Proofs.Ytiiolhnpnlmkjaa.PCt
namespace Go.Proofs.Ytiiolhnpnlmkjaa.Tree
open Go.RowKit Go.Proofs.Ytiiolhnpnlmkjaa.PWkbPrints Go.Proofs.YtiiolhnpnlmkjaaW.PrintWords Go.Proofs.YtiiolhnpnlmkjaaW.PrintLast Go.Proofs.YtiiolhnpnlmkjaaW.PrintMore Go.Proofs.Ytiiolhnpnlmkjaa.PCt
theorem cut_l (l : List Int) : ∀ (d k i : Nat), i + d = min l.length 1500 → d < k → plumblaw17_cut.l0 k l (l.take i) (i : Int) = some (l.take 1500) := by
  intro d
  induction d with
  | zero =>
    intro k i hi hk
    obtain ⟨k, rfl⟩ : ∃ m, k = m + 1 := ⟨k - 1, by omega⟩
    rw [plumblaw17_cut.l0]
    by_cases c1 : (i : Int) < (l.length : Int)
    · rw [if_pos c1, if_neg (by omega), show i = 1500 from by omega]
    · rw [if_neg c1, List.take_of_length_le (by omega), List.take_of_length_le (by omega)]
  | succ d ih =>
    intro k i hi hk
    obtain ⟨k, rfl⟩ : ∃ m, k = m + 1 := ⟨k - 1, by omega⟩
    have e3 : wrap64 ((i : Int) + 1) = ((i + 1 : Nat) : Int) := by unfold wrap64; omega
    have hl : i < l.length := by omega
    have e4 : l.take i ++ [rd l (i : Int)] = l.take (i + 1) := by
      rw [rd, Int.toNat_natCast, List.getD_eq_getElem?_getD, List.getElem?_eq_getElem hl, Option.getD_some, List.take_add_one, List.getElem?_eq_getElem hl]
      rfl
    rw [plumblaw17_cut.l0, if_pos (by omega), if_pos (by omega), if_pos (by omega), if_pos (by rw [List.length_take]; omega), e3, e4]
    exact ih k (i + 1) (by omega) (by omega)
/-- The bytes that a law reads. -/
def cutB (l : List Int) : List Int := l.take 1500
theorem cutB_len (l : List Int) : (cutB l).length ≤ 1500 := by unfold cutB; rw [List.length_take]; omega
theorem cut_calls (A : Option Addr) (c : Nat) (l : List Int) (w : World) (hC : kB.C w A l.length l) (hc : l.length ≤ c) :
    Calls Try.prog 8 #[.slice A l.length c] w fun e w' => ∃ u, e = .returned u ∧ kB.R 5 w' w.heap.size (fun _ => True) u (cutB l) ∧ Below w.heap.size w w' :=
  plumblaw17_cut.calls 1502 A c l (cutB l) w hC hc (by
    have h := cut_l l (min l.length 1500) 1502 0 (by omega) (by omega)
    rw [List.take_zero] at h
    exact h)
end Go.Proofs.Ytiiolhnpnlmkjaa.Tree
namespace Go.Proofs.Ytiiolhnpnlmkjaa.Tree
open Go.RowKit Go.Proofs.YtiiolhnpnlmkjaaW.PrintWords Go.Proofs.YtiiolhnpnlmkjaaW.PrintLast Go.Proofs.YtiiolhnpnlmkjaaW.PrintMore
theorem ge_ext {a b : Ge} (h0 : a.f0 = b.f0) (h1 : a.f1 = b.f1) (h2 : a.f2 = b.f2) (h3 : a.f3 = b.f3) : a = b := by
  cases a; cases b
  dsimp only at h0 h1 h2 h3
  subst h0 h1 h2 h3
  rfl
open Classical in
/-- The same tree? -/
noncomputable def eqG (a b : Ge) : Bool := if a = b then true else false
theorem eqG_true {a b : Ge} (h : a = b) : eqG a b = true := by unfold eqG; exact if_pos h
theorem eqG_false {a b : Ge} (h : a ≠ b) : eqG a b = false := by unfold eqG; exact if_neg h
theorem eqG_iff (a b : Ge) : eqG a b = true ↔ a = b := by
  refine ⟨fun h => ?_, eqG_true⟩
  by_cases e : a = b
  · exact e
  · rw [eqG_false e] at h
    cases h
deriving instance DecidableEq for Pt
def eqL (a b : List Pt) : Bool := decide (a = b)
theorem eqL_true {a b : List Pt} (h : a = b) : eqL a b = true := decide_eq_true h
theorem eqL_false {a b : List Pt} (h : a ≠ b) : eqL a b = false := decide_eq_false h
theorem eqL_iff (a b : List Pt) : eqL a b = true ↔ a = b := decide_eq_true_iff
set_option maxRecDepth 100000 in
set_option maxHeartbeats 4000000 in
theorem sameLine_calls (A B : Option Addr) (c d : Nat) (a b : List Pt) (w : World) (ha : Kd.C kPt w A a.length a) (hb : Kd.C kPt w B b.length b) (hl : a.length ≤ 1073741824) :
    Calls Try.prog 29 #[.slice A a.length c, .slice B b.length d] w fun e w' => e = .returned (.bool (eqL a b)) ∧ ∃ n, w' = w.drewN n := by
  have hu := Try.underlying65
  have HA := Aside0.mk ha
  have HB := Aside0.mk hb
  clear ha hb
  by_cases hn : a.length = b.length
  · have q1 : ((a.length : Int) == (b.length : Int)) = true := beq_iff_eq.mpr (by omega)
    have q2 : ((a.length : Int) != (b.length : Int)) = false := bne_eq_false_iff_eq.mpr (by omega)
    have HN := Aside0.mk hn
    clear hn
    go_enter Try.func29, Try.ntmps29
    go_wp2_with fail
    go_loopg [13] a.length (fun kq i wr => ∃ k : Nat, k + kq = a.length ∧ i = .int .i64 (k : Int) ∧ Aside0 (a.take k = b.take k) ∧ ∃ m, wr = w.drewN m)
    case atStart => exact ⟨0, by omega, rfl, ⟨rfl⟩, 0, rfl⟩
    case round =>
      obtain ⟨k, hk, rfl, HT, m, rfl⟩ := hrel
      cases gk with
      | zero =>
        have hlt : ¬ ((k : Int) < (a.length : Int)) := by omega
        obtain rfl : k = a.length := by omega
        go_wp2_with fail
        go_ret
        refine ⟨ret_b ?_, m, rfl⟩
        have h := HT.out
        rw [List.take_length, HN.out, List.take_length] at h
        rw [eqL_true h]
      | succ kq =>
        have hlt : (k : Int) < (a.length : Int) := by omega
        have hlt1 : k < a.length := by omega
        have hltb' : k < b.length := by have := HN.out; omega
        have hltb : (k : Int) < (b.length : Int) := by omega
        obtain ⟨x1, e1, p0, p1⟩ := at_Pt HA.out (k : Int) (by omega) (by omega)
        obtain ⟨x2, e2, r0, r1⟩ := at_Pt HB.out (k : Int) (by omega) (by omega)
        subst e1 e2
        rw [rd_Pt_at _ _ hlt1, Int.toNat_natCast] at p0 p1
        rw [rd_Pt_at _ _ hltb', Int.toNat_natCast] at r0 r1
        obtain ⟨u, hu1⟩ : ∃ u, u = a[k] := ⟨_, rfl⟩
        obtain ⟨v, hv1⟩ : ∃ v, v = b[k] := ⟨_, rfl⟩
        rw [← hu1] at p0 p1
        rw [← hv1] at r0 r1
        have HU := Aside0.mk hu1
        have HV := Aside0.mk hv1
        clear hu1 hv1
        obtain ⟨u0, u1⟩ := u
        obtain ⟨v0, v1⟩ := v
        dsimp only at p0 p1 r0 r1
        by_cases h0 : u0 = v0
        · have s0 : (u0 == v0) = true := beq_iff_eq.mpr h0
          by_cases h1 : u1 = v1
          · have s1 : (u1 == v1) = true := beq_iff_eq.mpr h1
            have HE := Aside0.mk (show a.take (k + 1) = b.take (k + 1) by
              rw [List.take_succ_eq_append_getElem hlt1, List.take_succ_eq_append_getElem hltb', HT.out, ← HU.out, ← HV.out, h0, h1])
            clear h0 h1
            go_wp2_with fail
            go_quiet (fail)
            go_wp2_with fail
            go_roundg kq
            case measure => omega
            case rel => exact ⟨k + 1, by omega, by go_num, HE, _, rfl⟩
          · have s1 : (u1 == v1) = false := beq_eq_false_iff_ne.mpr h1
            have HE := Aside0.mk (show a ≠ b by rintro rfl; have := HU.out.trans HV.out.symm; injection this; contradiction)
            clear h0 h1
            go_wp2_with fail
            go_quiet (fail)
            go_wp2_with fail
            go_ret
            exact ⟨ret_b (eqL_false HE.out).symm, _, World.drewN_drewN _ _ _⟩
        · have s0 : (u0 == v0) = false := beq_eq_false_iff_ne.mpr h0
          have HE := Aside0.mk (show a ≠ b by rintro rfl; have := HU.out.trans HV.out.symm; injection this; contradiction)
          clear h0
          go_wp2_with fail
          go_quiet (fail)
          go_wp2_with fail
          go_ret
          exact ⟨ret_b (eqL_false HE.out).symm, _, World.drewN_drewN _ _ _⟩
  · have q1 : ((a.length : Int) == (b.length : Int)) = false := beq_eq_false_iff_ne.mpr (by omega)
    have q2 : ((a.length : Int) != (b.length : Int)) = true := bne_iff_ne.mpr (by omega)
    have HE := Aside0.mk (show a ≠ b by rintro rfl; exact hn rfl)
    clear hn
    go_enter Try.func29, Try.ntmps29
    go_wp2_with fail
    go_ret
    exact ⟨ret_b (eqL_false HE.out).symm, 0, rfl⟩
set_option maxRecDepth 100000 in
set_option maxHeartbeats 8000000 in
theorem equal_calls (n : Nat) : ∀ (v u : Value) (a b : Ge) (w : World), IsG w v a → IsG w u b → a.bulk ≤ n → n ≤ 1073741824 → b.bulk ≤ 1073741824 →
    Calls Try.prog 18 #[v, u] w fun e w' => e = .returned (.bool (eqG a b)) ∧ Below w.heap.size w w' := by
  induction n with
  | zero => intro v u a b w _ _ h; have := a.bulk_eq; omega
  | succ n ih =>
  rintro v u a b w ⟨A1, c1, A2, c2, A3, c3, rfl, l1, h1, l2, h2, l3, h3⟩ ⟨D1, d1, D2, d2, D3, d3, rfl, m1, k1, m2, k2, m3, k3⟩ hbk hn hbb
  have hbq := a.bulk_eq
  have hbq' := b.bulk_eq
  have hb1 : a.f1.length ≤ 1073741824 := by omega
  have hb2 : a.f2.length ≤ 1073741824 := by omega
  have hb3 : a.f3.length ≤ 1073741824 := by have := bulks_len a.f3; omega
  have hd1 : b.f1.length ≤ 1073741824 := by omega
  have hd2 : b.f2.length ≤ 1073741824 := by omega
  have hd3 : b.f3.length ≤ 1073741824 := by have := bulks_len b.f3; omega
  have H1 := Aside0.mk h1
  have H2 := Aside0.mk h2
  have H3 := Aside0.mk h3
  have K1 := Aside0.mk k1
  have K2 := Aside0.mk k2
  have K3 := Aside0.mk k3
  have U := Aside0.mk (upTo_le a.f2)
  have HBQ := Aside0.mk (And.intro hbk (And.intro hbq (And.intro hbb hbq')))
  have IH := Aside0.mk ih
  have HN := Aside0.mk hn
  clear h1 h2 h3 k1 k2 k3 ih hbk hbq hbb hbq' l1 l2 l3 m1 m2 m3 hn
  have hmx : Try.prog.follows .mixedOrders = true := by kernel_rfl
  have hun := Try.underlying28
  go_enter Try.func18, Try.ntmps18
  have HB0 := Aside0.mk (Below.refl w.heap.size w)
  by_cases q0 : a.f0 = b.f0
  · by_cases q1 : a.f1 = b.f1
    · by_cases q2 : a.f2.length = b.f2.length
      · by_cases q3 : a.f3.length = b.f3.length
        · have Q0 := Aside0.mk q0
          have Q1 := Aside0.mk q1
          have Q2 := Aside0.mk q2
          have Q3 := Aside0.mk q3
          have t0 : (a.f0 == b.f0) = true := beq_iff_eq.mpr q0
          have t0' : (a.f0 != b.f0) = false := bne_eq_false_iff_eq.mpr q0
          have t2 : ((a.f2.length : Int) == (b.f2.length : Int)) = true := beq_iff_eq.mpr (by omega)
          have t2' : ((a.f2.length : Int) != (b.f2.length : Int)) = false := bne_eq_false_iff_eq.mpr (by omega)
          have t3 : ((a.f3.length : Int) == (b.f3.length : Int)) = true := beq_iff_eq.mpr (by omega)
          have t3' : ((a.f3.length : Int) != (b.f3.length : Int)) = false := bne_eq_false_iff_eq.mpr (by omega)
          clear q0 q1 q2 q3
          go_wp2_with fail
          obtain ⟨ga, hga⟩ : ∃ x, x = w.heap.size := ⟨_, rfl⟩
          obtain ⟨gb, hgb⟩ : ∃ x, x = w.heap.size + 1 := ⟨_, rfl⟩
          obtain ⟨W0, hW0⟩ : ∃ x, x = ((w.alloc (.cells #[.int .i64 a.f0, .slice A1 a.f1.length c1, .slice A2 a.f2.length c2, .slice A3 a.f3.length c3] 28)).alloc (.cells #[.int .i64 b.f0, .slice D1 b.f1.length d1, .slice D2 b.f2.length d2, .slice D3 b.f3.length d3] 28)) := ⟨_, rfl⟩
          rw [← hW0, ← hgb, ← hga]
          have BA := Aside0.mk (show W0.heap[ga]? = some (.cells #[.int .i64 a.f0, .slice A1 a.f1.length c1, .slice A2 a.f2.length c2, .slice A3 a.f3.length c3] 28 (0, 0)) by rw [hW0, hga]; exact blk_alloc (World.alloc_heap_new _ _) _)
          have BB := Aside0.mk (show W0.heap[gb]? = some (.cells #[.int .i64 b.f0, .slice D1 b.f1.length d1, .slice D2 b.f2.length d2, .slice D3 b.f3.length d3] 28 (0, 0)) by
            rw [hW0, hgb]
            have h := World.alloc_heap_new (w.alloc (.cells #[.int .i64 a.f0, .slice A1 a.f1.length c1, .slice A2 a.f2.length c2, .slice A3 a.f3.length c3] 28)) (.cells #[.int .i64 b.f0, .slice D1 b.f1.length d1, .slice D2 b.f2.length d2, .slice D3 b.f3.length d3] 28)
            simpa using h)
          have HB := Aside0.mk (show Below w.heap.size w W0 by rw [hW0]; exact below_alloc (below_alloc (Below.refl _ _) _) _)
          have HGA := Aside0.mk hga
          clear hW0 hga hgb HB0
          have z0 : W0.cell? ⟨ga, 0, none⟩ = some (.int .i64 a.f0) := (blk_cell BA.out 0).trans rfl
          have z1 : W0.cell? ⟨ga, 1, none⟩ = some (.slice A1 a.f1.length c1) := (blk_cell BA.out 1).trans rfl
          have z2 : W0.cell? ⟨ga, 2, none⟩ = some (.slice A2 a.f2.length c2) := (blk_cell BA.out 2).trans rfl
          have z3 : W0.cell? ⟨ga, 3, none⟩ = some (.slice A3 a.f3.length c3) := (blk_cell BA.out 3).trans rfl
          have y0 : W0.cell? ⟨gb, 0, none⟩ = some (.int .i64 b.f0) := (blk_cell BB.out 0).trans rfl
          have y1 : W0.cell? ⟨gb, 1, none⟩ = some (.slice D1 b.f1.length d1) := (blk_cell BB.out 1).trans rfl
          have y2 : W0.cell? ⟨gb, 2, none⟩ = some (.slice D2 b.f2.length d2) := (blk_cell BB.out 2).trans rfl
          have y3 : W0.cell? ⟨gb, 3, none⟩ = some (.slice D3 b.f3.length d3) := (blk_cell BB.out 3).trans rfl
          refine (sameLine_calls A1 D1 c1 d1 a.f1 b.f1 W0 (Kd.C_below H1.out HB.out) (Kd.C_below K1.out HB.out) hb1).mono ?_
          rintro e w' ⟨rfl, nd, rfl⟩
          rw [eqL_true Q1.out]
          have YQ := Aside0.mk (And.intro y2 y3)
          have HL2 := Aside0.mk (show (a.f2.length : Int) = (b.f2.length : Int) by have := Q2.out; omega)
          go_wp2_with fail
          go_loopg [41] a.f2.length (fun kq i wr => ∃ j : Nat, j + kq = a.f2.length ∧ i = .int .i64 (j : Int) ∧ Aside0 (a.f2.take j = b.f2.take j) ∧ ∃ m, wr = W0.drewN m)
          case atStart => exact ⟨0, by omega, rfl, ⟨rfl⟩, nd, rfl⟩
          case round =>
            obtain ⟨j, hj, rfl, HT, m, rfl⟩ := hrel
            cases gk with
            | zero =>
              have hlt : ¬ ((j : Int) < (a.f2.length : Int)) := by omega
              obtain rfl : j = a.f2.length := by omega
              have HF2 := Aside0.mk (show a.f2 = b.f2 by
                have h := HT.out
                rw [List.take_length, Q2.out, List.take_length] at h
                exact h)
              clear HT hj
              go_wp2_with fail
              have Z3 := Aside0.mk z3
              have Y3 := Aside0.mk y3
              go_loopg [60] a.f3.length (fun kq i wr => ∃ j : Nat, j + kq = a.f3.length ∧ i = .int .i64 (j : Int) ∧ Aside0 (a.f3.take j = b.f3.take j) ∧ Aside0 (Below W0.heap.size W0 wr))
              case atStart => exact ⟨0, by omega, rfl, ⟨rfl⟩, ⟨by repeat (first | exact Below.refl _ _ | apply pw_below_drewN)⟩⟩
              case round =>
                obtain ⟨j, hj, rfl, HT, HW⟩ := hrel
                have z3' := cell_below HW.out Z3.out
                have y3' := cell_below HW.out Y3.out
                cases gk with
                | zero =>
                  have hlt : ¬ ((j : Int) < (a.f3.length : Int)) := by omega
                  obtain rfl : j = a.f3.length := by omega
                  have HE := Aside0.mk (show a = b by
                    have h := HT.out
                    rw [List.take_length, Q3.out, List.take_length] at h
                    exact ge_ext Q0.out Q1.out HF2.out h)
                  go_wp2_with fail
                  go_ret
                  exact ⟨ret_b (eqG_true HE.out).symm, below_step HB.out HW.out⟩
                | succ kq =>
                  have hlt : j < a.f3.length := by omega
                  have hltb : j < b.f3.length := by have := Q3.out; omega
                  obtain ⟨q3, B1, b1, B2, b2, B3, b3, ea, u0, u1, u2, u3, n1, o1, n2, o2, n3, o3⟩ := at_Ge H3.out j (by omega) (by omega)
                  obtain ⟨a3, F1, f1, F2, f2, F3, f3, eb, t0, t1, t2, t3, m1, p1, m2, p2, m3, p3⟩ := at_Ge K3.out j (by omega) (by omega)
                  subst ea eb
                  rw [rd_Ge_at _ _ hlt] at u0 u1 u2 u3 o1 o2 o3 n1 n2 n3
                  rw [rd_Ge_at _ _ hltb] at t0 t1 t2 t3 p1 p2 p3 m1 m2 m3
                  rw [Int.toNat_natCast] at u0 u1 u2 u3 t0 t1 t2 t3
                  obtain ⟨ka, hka⟩ : ∃ k, k = a.f3[j] := ⟨_, rfl⟩
                  obtain ⟨kb, hkb⟩ : ∃ k, k = b.f3[j] := ⟨_, rfl⟩
                  rw [← hka] at u0 u1 u2 u3 o1 o2 o3 n1 n2 n3
                  rw [← hkb] at t0 t1 t2 t3 p1 p2 p3 m1 m2 m3
                  have HIA := Aside0.mk (show IsG w (.agg #[.int .i64 ka.f0, .slice B1 ka.f1.length b1, .slice B2 ka.f2.length b2, .slice B3 ka.f3.length b3]) ka from ⟨B1, b1, B2, b2, B3, b3, rfl, n1, o1, n2, o2, n3, o3⟩)
                  have HIB := Aside0.mk (show IsG w (.agg #[.int .i64 kb.f0, .slice F1 kb.f1.length f1, .slice F2 kb.f2.length f2, .slice F3 kb.f3.length f3]) kb from ⟨F1, f1, F2, f2, F3, f3, rfl, m1, p1, m2, p2, m3, p3⟩)
                  have U0 := Aside0.mk (cell_below HB.out u0)
                  have U1 := Aside0.mk (cell_below HB.out u1)
                  have U2 := Aside0.mk (cell_below HB.out u2)
                  have U3 := Aside0.mk (cell_below HB.out u3)
                  have V0 := Aside0.mk (cell_below HB.out t0)
                  have V1 := Aside0.mk (cell_below HB.out t1)
                  have V2 := Aside0.mk (cell_below HB.out t2)
                  have V3 := Aside0.mk (cell_below HB.out t3)
                  have hpa : ka.bulk ≤ n := by rw [hka]; have := bulks_mem (List.getElem_mem hlt); have := HBQ.out.1; have := HBQ.out.2.1; omega
                  have hpb : kb.bulk ≤ 1073741824 := by rw [hkb]; have := bulks_mem (List.getElem_mem hltb); have := HBQ.out.2.2.1; have := HBQ.out.2.2.2; omega
                  have HTa := Aside0.mk (show a.f3.take (j + 1) = a.f3.take j ++ [ka] by rw [List.take_succ_eq_append_getElem hlt, hka])
                  have HTb := Aside0.mk (show b.f3.take (j + 1) = b.f3.take j ++ [kb] by rw [List.take_succ_eq_append_getElem hltb, hkb])
                  have HPA := Aside0.mk (And.intro hpa hpb)
                  clear u0 u1 u2 u3 t0 t1 t2 t3 n1 o1 n2 o2 n3 o3 m1 p1 m2 p2 m3 p3 hka hkb hpa hpb
                  have i0 : (0 : Int) ≤ (j : Int) := by omega
                  have i1 : (j : Int) < (a.f3.length : Int) := by omega
                  have i2 : (j : Int) < (b.f3.length : Int) := by have := Q3.out; omega
                  go_wp2_with fail
                  refine start_ (n := 12) (S := fun w' => w'.cell? ⟨ga, 3, none⟩ = some (.slice (some q3) a.f3.length c3) ∧ w'.cell? ⟨gb, 3, none⟩ = some (.slice (some a3) b.f3.length d3) ∧ w'.cell? (q3.add (j * 4)) = some (.int .i64 ka.f0) ∧ w'.cell? ⟨(q3.add (j * 4)).block, (q3.add (j * 4)).off + 1, none⟩ = some (.slice B1 ka.f1.length b1) ∧ w'.cell? ⟨(q3.add (j * 4)).block, (q3.add (j * 4)).off + 2, none⟩ = some (.slice B2 ka.f2.length b2) ∧ w'.cell? ⟨(q3.add (j * 4)).block, (q3.add (j * 4)).off + 3, none⟩ = some (.slice B3 ka.f3.length b3) ∧ w'.cell? (a3.add (j * 4)) = some (.int .i64 kb.f0) ∧ w'.cell? ⟨(a3.add (j * 4)).block, (a3.add (j * 4)).off + 1, none⟩ = some (.slice F1 kb.f1.length f1) ∧ w'.cell? ⟨(a3.add (j * 4)).block, (a3.add (j * 4)).off + 2, none⟩ = some (.slice F2 kb.f2.length f2) ∧ w'.cell? ⟨(a3.add (j * 4)).block, (a3.add (j * 4)).off + 3, none⟩ = some (.slice F3 kb.f3.length f3) ∧ True) (ds := []) #[false, false, false, false, false, false, false, false, false, false, false, false] hmx rfl rfl ⟨cell_below (below_drew HW.out) Z3.out, cell_below (below_drew HW.out) Y3.out, cell_below (below_drew HW.out) U0.out, cell_below (below_drew HW.out) U1.out, cell_below (below_drew HW.out) U2.out, cell_below (below_drew HW.out) U3.out, cell_below (below_drew HW.out) V0.out, cell_below (below_drew HW.out) V1.out, cell_below (below_drew HW.out) V2.out, cell_below (below_drew HW.out) V3.out, trivial⟩ (fun hHeld => ?_)
                  have HWd := Aside0.mk (below_drew HW.out)
                  clear z3' y3'
                  generalize wr.drew = Wd at HWd hHeld ⊢
                  (refine pure_ (i := 0) (N := some 63) (v := ?_) (a' := ?_) #[true, false, false, false, false, false, false, false, false, false, false, false] rfl rfl (by kernel_rfl) (fun _ _ _ h => h) (Or.inl ⟨by rfl, ?_⟩) ?_ ?_; rotate_left; (focus (intro w'_; go_simp; with_reducible rfl)); rotate_left; (focus (simp only [Act.put, List.setIfInBounds_toArray, List.set_cons_zero, List.set_cons_succ]; rfl)))
                  (refine pure_ (i := 2) (N := some 65) (v := ?_) (a' := ?_) #[true, false, true, false, false, false, false, false, false, false, false, false] rfl rfl (by kernel_rfl) (fun _ _ _ h => h) (Or.inl ⟨by rfl, ?_⟩) ?_ ?_; rotate_left; (focus (intro w'_; go_simp; with_reducible rfl)); rotate_left; (focus (simp only [Act.put, List.setIfInBounds_toArray, List.set_cons_zero, List.set_cons_succ]; rfl)))
                  (refine pure_ (i := 5) (N := some 68) (v := ?_) (a' := ?_) #[true, false, true, false, false, true, false, false, false, false, false, false] rfl rfl (by kernel_rfl) (fun _ _ _ h => h) (Or.inl ⟨by rfl, ?_⟩) ?_ ?_; rotate_left; (focus (intro w'_; go_simp; with_reducible rfl)); rotate_left; (focus (simp only [Act.put, List.setIfInBounds_toArray, List.set_cons_zero, List.set_cons_succ]; rfl)))
                  (refine pure_ (i := 7) (N := some 70) (v := ?_) (a' := ?_) #[true, false, true, false, false, true, false, true, false, false, false, false] rfl rfl (by kernel_rfl) (fun _ _ _ h => h) (Or.inl ⟨by rfl, ?_⟩) ?_ ?_; rotate_left; (focus (intro w'_; go_simp; with_reducible rfl)); rotate_left; (focus (simp only [Act.put, List.setIfInBounds_toArray, List.set_cons_zero, List.set_cons_succ]; rfl)))
                  (refine take_ (i := 1) (N := some 64) (v := ?_) (a' := ?_) #[true, true, true, false, false, true, false, true, false, false, false, false] rfl rfl (by kernel_rfl) (fun _ _ _ h => h) (Or.inl ⟨by rfl, ?_⟩) hHeld ?_ ?_; rotate_left; (focus (intro w'_ hs_; (repeat obtain ⟨_, hs_⟩ := hs_); go_simp; with_reducible rfl)); rotate_left; (focus (simp only [Act.put, List.setIfInBounds_toArray, List.set_cons_zero, List.set_cons_succ]; rfl)))
                  (refine take_ (i := 6) (N := some 69) (v := ?_) (a' := ?_) #[true, true, true, false, false, true, true, true, false, false, false, false] rfl rfl (by kernel_rfl) (fun _ _ _ h => h) (Or.inl ⟨by rfl, ?_⟩) hHeld ?_ ?_; rotate_left; (focus (intro w'_ hs_; (repeat obtain ⟨_, hs_⟩ := hs_); go_simp; with_reducible rfl)); rotate_left; (focus (simp only [Act.put, List.setIfInBounds_toArray, List.set_cons_zero, List.set_cons_succ]; rfl)))
                  (refine pure_ (i := 3) (N := some 66) (v := ?_) (a' := ?_) #[true, true, true, true, false, true, true, true, false, false, false, false] rfl rfl (by kernel_rfl) (fun _ _ _ h => h) (Or.inl ⟨by rfl, ?_⟩) ?_ ?_; rotate_left; (focus (intro w'_; go_simp; with_reducible rfl)); rotate_left; (focus (simp only [Act.put, List.setIfInBounds_toArray, List.set_cons_zero, List.set_cons_succ]; rfl)))
                  (refine pure_ (i := 8) (N := some 71) (v := ?_) (a' := ?_) #[true, true, true, true, false, true, true, true, true, false, false, false] rfl rfl (by kernel_rfl) (fun _ _ _ h => h) (Or.inl ⟨by rfl, ?_⟩) ?_ ?_; rotate_left; (focus (intro w'_; go_simp; with_reducible rfl)); rotate_left; (focus (simp only [Act.put, List.setIfInBounds_toArray, List.set_cons_zero, List.set_cons_succ]; rfl)))
                  (refine take_ (i := 4) (N := some 67) (v := ?_) (a' := ?_) #[true, true, true, true, true, true, true, true, true, false, false, false] rfl rfl (by kernel_rfl) (fun _ _ _ h => h) (Or.inl ⟨by rfl, ?_⟩) hHeld ?_ ?_; rotate_left; (focus (intro w'_ hs_; (repeat obtain ⟨_, hs_⟩ := hs_); go_simp; with_reducible rfl)); rotate_left; (focus (simp only [Act.put, List.setIfInBounds_toArray, List.set_cons_zero, List.set_cons_succ]; rfl)))
                  (refine take_ (i := 9) (N := some 72) (v := ?_) (a' := ?_) #[true, true, true, true, true, true, true, true, true, true, false, false] rfl rfl (by kernel_rfl) (fun _ _ _ h => h) (Or.inl ⟨by rfl, ?_⟩) hHeld ?_ ?_; rotate_left; (focus (intro w'_ hs_; (repeat obtain ⟨_, hs_⟩ := hs_); go_simp; with_reducible rfl)); rotate_left; (focus (simp only [Act.put, List.setIfInBounds_toArray, List.set_cons_zero, List.set_cons_succ]; rfl)))
                  refine one_ (i := 10) (N := some 73) #[true, true, true, true, true, true, true, true, true, true, true, false] rfl rfl (by kernel_rfl) (by decide) (fun K hK => ?_)
                  refine goes_ Try.func18 (by kernel_rfl) rfl #[.agg #[.int .i64 ka.f0, .slice B1 ka.f1.length b1, .slice B2 ka.f2.length b2, .slice B3 ka.f3.length b3], .agg #[.int .i64 kb.f0, .slice F1 kb.f1.length f1, .slice F2 kb.f2.length f2, .slice F3 kb.f3.length f3]] (by rfl) rfl rfl (by (try simp only [List.map_toArray, List.map_cons, List.map_nil]); first | done | rfl) ?_
                  have hbw := below_step HB.out HWd.out
                  refine (IH.out _ _ ka kb Wd (HIA.out.below hbw) (HIB.out.below hbw) HPA.out.1 (by have := HN.out; omega) HPA.out.2).mono ?_
                  rintro e X1 ⟨rfl, hb1⟩
                  have hw1 := below_step HWd.out hb1
                  refine ⟨_, rfl, hK.out _ _ ⟨cell_below hw1 Z3.out, cell_below hw1 Y3.out, cell_below hw1 U0.out, cell_below hw1 U1.out, cell_below hw1 U2.out, cell_below hw1 U3.out, cell_below hw1 V0.out, cell_below hw1 V1.out, cell_below hw1 V2.out, cell_below hw1 V3.out, trivial⟩ (fun hHeld2 => ?_)⟩
                  clear hK K
                  (refine norm_ (a' := ?_) ?_ ?_; rotate_left; focus (show Act.put _ (some 73) _ = _; simp only [Act.put, List.setIfInBounds_toArray, List.set_cons_zero, List.set_cons_succ]; rfl))
                  cases hq : eqG ka kb with
                  | true =>
                    (refine pure_ (i := 11) (N := some 74) (v := ?_) (a' := ?_) #[true, true, true, true, true, true, true, true, true, true, true, true] rfl rfl (by kernel_rfl) (fun _ _ _ h => h) (Or.inl ⟨by rfl, ?_⟩) ?_ ?_; rotate_left; (focus (intro w'_; go_simp; with_reducible rfl)); rotate_left; (focus (simp only [Act.put, List.setIfInBounds_toArray, List.set_cons_zero, List.set_cons_succ]; rfl)))
                    refine done_ (by kernel_rfl) ?_
                    have HT2 := Aside0.mk (show a.f3.take (j + 1) = b.f3.take (j + 1) by rw [HTa.out, HTb.out, HT.out, (eqG_iff _ _).1 hq])
                    have HW1 := Aside0.mk hw1
                    clear hw1 hb1 hbw hHeld hHeld2 hq
                    go_wp2_with fail
                    go_roundg kq
                    case measure => omega
                    case rel => exact ⟨j + 1, by omega, by go_num, HT2, HW1⟩
                  | false =>
                    (refine pure_ (i := 11) (N := some 74) (v := ?_) (a' := ?_) #[true, true, true, true, true, true, true, true, true, true, true, true] rfl rfl (by kernel_rfl) (fun _ _ _ h => h) (Or.inl ⟨by rfl, ?_⟩) ?_ ?_; rotate_left; (focus (intro w'_; go_simp; with_reducible rfl)); rotate_left; (focus (simp only [Act.put, List.setIfInBounds_toArray, List.set_cons_zero, List.set_cons_succ]; rfl)))
                    refine done_ (by kernel_rfl) ?_
                    have HE := Aside0.mk (show a ≠ b from by
                      intro hab
                      have h := HTa.out.symm.trans ((by rw [hab] : a.f3.take (j + 1) = b.f3.take (j + 1)).trans HTb.out)
                      have h2 := List.append_inj_right' h rfl
                      injection h2 with h2
                      rw [eqG_true h2] at hq
                      cases hq)
                    have HW1 := Aside0.mk hw1
                    clear hw1 hb1 hbw hHeld hHeld2 hq
                    go_wp2_with fail
                    go_ret
                    exact ⟨ret_b (eqG_false HE.out).symm, below_step HB.out HW1.out⟩
            | succ kq =>
              have hlt : j < a.f2.length := by omega
              have hltb : j < b.f2.length := by have := Q2.out; omega
              obtain ⟨a2, A0, c0, ea, hx, hl, hc⟩ := at_L2 H2.out j (by omega) (by omega)
              obtain ⟨a4, B0, b0, eb, hy, hm, hd⟩ := at_L2 K2.out j (by omega) (by omega)
              subst ea eb
              rw [rd_L2_at _ _ hlt, Int.toNat_natCast] at hx
              rw [rd_L2_at _ _ hlt] at hc
              rw [rd_L2_at _ _ hltb, Int.toNat_natCast] at hy
              rw [rd_L2_at _ _ hltb] at hd
              have hlen : (a.f2[j]).length ≤ 1073741824 := by
                have h1 := upTo_le a.f2 (j + 1)
                rw [upTo_succ a.f2 j hlt] at h1
                have := HBQ.out.1
                have := HBQ.out.2.1
                have := HN.out
                omega
              have HCR := Aside0.mk (fun W (hb : Below w.heap.size w W) => sameLine_calls A0 B0 c0 b0 a.f2[j] b.f2[j] W (Kd.C_below hc hb) (Kd.C_below hd hb) hlen)
              have hx' := cell_below HB.out hx
              have hy' := cell_below HB.out hy
              have i0 : (0 : Int) ≤ (j : Int) := by omega
              have hj1 : (j : Int) < (a.f2.length : Int) := by omega
              have hj2 : (j : Int) < (b.f2.length : Int) := by have := Q2.out; omega
              obtain ⟨LA, hLA⟩ : ∃ k, k = a.f2[j] := ⟨_, rfl⟩
              obtain ⟨LB, hLB⟩ : ∃ k, k = b.f2[j] := ⟨_, rfl⟩
              rw [← hLA, ← hLB] at HCR
              rw [← hLA] at hx'
              rw [← hLB] at hy'
              have HTa := Aside0.mk (show a.f2.take (j + 1) = a.f2.take j ++ [LA] by rw [List.take_succ_eq_append_getElem hlt, hLA])
              have HTb := Aside0.mk (show b.f2.take (j + 1) = b.f2.take j ++ [LB] by rw [List.take_succ_eq_append_getElem hltb, hLB])
              clear hx hy hc hd hl hm hLA hLB hlen
              cases hq : eqL LA LB with
              | true =>
                rw [hq] at HCR
                have HQ := Aside0.mk ((eqL_iff _ _).1 hq)
                clear hq
                go_wp2_with fail
                go_quiet ((refine (HCR.out _ (by repeat (first | exact HB.out | apply pw_below_drewN))).mono ?_; rintro e w' ⟨rfl, nd, rfl⟩; exact ⟨rfl, _, (World.drewN_drewN _ _ _).trans (congrArg W0.drewN (Nat.add_assoc _ _ _))⟩))
                go_wp2_with fail
                go_roundg kq
                case measure => omega
                case rel => exact ⟨j + 1, by omega, by go_num, ⟨by rw [HTa.out, HTb.out, HT.out, HQ.out]⟩, _, rfl⟩
              | false =>
                rw [hq] at HCR
                have HE := Aside0.mk (show a ≠ b from by
                  rintro rfl
                  have h := HTa.out.symm.trans HTb.out
                  have h2 := List.append_inj_right' h rfl
                  injection h2 with h2
                  rw [eqL_true h2] at hq
                  cases hq)
                clear hq
                go_wp2_with fail
                go_quiet ((refine (HCR.out _ (by repeat (first | exact HB.out | apply pw_below_drewN))).mono ?_; rintro e w' ⟨rfl, nd, rfl⟩; exact ⟨rfl, _, (World.drewN_drewN _ _ _).trans (congrArg W0.drewN (Nat.add_assoc _ _ _))⟩))
                go_wp2_with fail
                go_ret
                exact ⟨ret_b (eqG_false HE.out).symm, by repeat (first | exact HB.out | apply pw_below_drewN)⟩
        · have HE := Aside0.mk (show a ≠ b from fun e => q3 (by rw [e]))
          have t0 : (a.f0 == b.f0) = true := beq_iff_eq.mpr q0
          have t0' : (a.f0 != b.f0) = false := bne_eq_false_iff_eq.mpr q0
          have t2 : ((a.f2.length : Int) == (b.f2.length : Int)) = true := beq_iff_eq.mpr (by omega)
          have t2' : ((a.f2.length : Int) != (b.f2.length : Int)) = false := bne_eq_false_iff_eq.mpr (by omega)
          have t3 : ((a.f3.length : Int) == (b.f3.length : Int)) = false := beq_eq_false_iff_ne.mpr (by omega)
          have t3' : ((a.f3.length : Int) != (b.f3.length : Int)) = true := bne_iff_ne.mpr (by omega)
          have Q1 := Aside0.mk q1
          clear q0 q1 q2 q3
          go_wp2_with fail
          obtain ⟨ga, hga⟩ : ∃ x, x = w.heap.size := ⟨_, rfl⟩
          obtain ⟨gb, hgb⟩ : ∃ x, x = w.heap.size + 1 := ⟨_, rfl⟩
          obtain ⟨W0, hW0⟩ : ∃ x, x = ((w.alloc (.cells #[.int .i64 a.f0, .slice A1 a.f1.length c1, .slice A2 a.f2.length c2, .slice A3 a.f3.length c3] 28)).alloc (.cells #[.int .i64 b.f0, .slice D1 b.f1.length d1, .slice D2 b.f2.length d2, .slice D3 b.f3.length d3] 28)) := ⟨_, rfl⟩
          rw [← hW0, ← hgb, ← hga]
          have BA := Aside0.mk (show W0.heap[ga]? = some (.cells #[.int .i64 a.f0, .slice A1 a.f1.length c1, .slice A2 a.f2.length c2, .slice A3 a.f3.length c3] 28 (0, 0)) by rw [hW0, hga]; exact blk_alloc (World.alloc_heap_new _ _) _)
          have BB := Aside0.mk (show W0.heap[gb]? = some (.cells #[.int .i64 b.f0, .slice D1 b.f1.length d1, .slice D2 b.f2.length d2, .slice D3 b.f3.length d3] 28 (0, 0)) by
            rw [hW0, hgb]
            have h := World.alloc_heap_new (w.alloc (.cells #[.int .i64 a.f0, .slice A1 a.f1.length c1, .slice A2 a.f2.length c2, .slice A3 a.f3.length c3] 28)) (.cells #[.int .i64 b.f0, .slice D1 b.f1.length d1, .slice D2 b.f2.length d2, .slice D3 b.f3.length d3] 28)
            simpa using h)
          have HB := Aside0.mk (show Below w.heap.size w W0 by rw [hW0]; exact below_alloc (below_alloc (Below.refl _ _) _) _)
          have HGA := Aside0.mk hga
          clear hW0 hga hgb HB0
          have z0 : W0.cell? ⟨ga, 0, none⟩ = some (.int .i64 a.f0) := (blk_cell BA.out 0).trans rfl
          have z1 : W0.cell? ⟨ga, 1, none⟩ = some (.slice A1 a.f1.length c1) := (blk_cell BA.out 1).trans rfl
          have z2 : W0.cell? ⟨ga, 2, none⟩ = some (.slice A2 a.f2.length c2) := (blk_cell BA.out 2).trans rfl
          have z3 : W0.cell? ⟨ga, 3, none⟩ = some (.slice A3 a.f3.length c3) := (blk_cell BA.out 3).trans rfl
          have y0 : W0.cell? ⟨gb, 0, none⟩ = some (.int .i64 b.f0) := (blk_cell BB.out 0).trans rfl
          have y1 : W0.cell? ⟨gb, 1, none⟩ = some (.slice D1 b.f1.length d1) := (blk_cell BB.out 1).trans rfl
          have y2 : W0.cell? ⟨gb, 2, none⟩ = some (.slice D2 b.f2.length d2) := (blk_cell BB.out 2).trans rfl
          have y3 : W0.cell? ⟨gb, 3, none⟩ = some (.slice D3 b.f3.length d3) := (blk_cell BB.out 3).trans rfl
          refine (sameLine_calls A1 D1 c1 d1 a.f1 b.f1 W0 (Kd.C_below H1.out HB.out) (Kd.C_below K1.out HB.out) hb1).mono ?_
          rintro e w' ⟨rfl, nd, rfl⟩
          rw [eqL_true Q1.out]
          go_wp2_with fail
          go_ret
          exact ⟨ret_b (eqG_false HE.out).symm, pw_below_drewN HB.out _⟩
      · have HE := Aside0.mk (show a ≠ b from fun e => q2 (by rw [e]))
        have t0 : (a.f0 == b.f0) = true := beq_iff_eq.mpr q0
        have t0' : (a.f0 != b.f0) = false := bne_eq_false_iff_eq.mpr q0
        have t2 : ((a.f2.length : Int) == (b.f2.length : Int)) = false := beq_eq_false_iff_ne.mpr (by omega)
        have t2' : ((a.f2.length : Int) != (b.f2.length : Int)) = true := bne_iff_ne.mpr (by omega)
        have Q1 := Aside0.mk q1
        clear q0 q1 q2
        go_wp2_with fail
        obtain ⟨ga, hga⟩ : ∃ x, x = w.heap.size := ⟨_, rfl⟩
        obtain ⟨gb, hgb⟩ : ∃ x, x = w.heap.size + 1 := ⟨_, rfl⟩
        obtain ⟨W0, hW0⟩ : ∃ x, x = ((w.alloc (.cells #[.int .i64 a.f0, .slice A1 a.f1.length c1, .slice A2 a.f2.length c2, .slice A3 a.f3.length c3] 28)).alloc (.cells #[.int .i64 b.f0, .slice D1 b.f1.length d1, .slice D2 b.f2.length d2, .slice D3 b.f3.length d3] 28)) := ⟨_, rfl⟩
        rw [← hW0, ← hgb, ← hga]
        have BA := Aside0.mk (show W0.heap[ga]? = some (.cells #[.int .i64 a.f0, .slice A1 a.f1.length c1, .slice A2 a.f2.length c2, .slice A3 a.f3.length c3] 28 (0, 0)) by rw [hW0, hga]; exact blk_alloc (World.alloc_heap_new _ _) _)
        have BB := Aside0.mk (show W0.heap[gb]? = some (.cells #[.int .i64 b.f0, .slice D1 b.f1.length d1, .slice D2 b.f2.length d2, .slice D3 b.f3.length d3] 28 (0, 0)) by
          rw [hW0, hgb]
          have h := World.alloc_heap_new (w.alloc (.cells #[.int .i64 a.f0, .slice A1 a.f1.length c1, .slice A2 a.f2.length c2, .slice A3 a.f3.length c3] 28)) (.cells #[.int .i64 b.f0, .slice D1 b.f1.length d1, .slice D2 b.f2.length d2, .slice D3 b.f3.length d3] 28)
          simpa using h)
        have HB := Aside0.mk (show Below w.heap.size w W0 by rw [hW0]; exact below_alloc (below_alloc (Below.refl _ _) _) _)
        have HGA := Aside0.mk hga
        clear hW0 hga hgb HB0
        have z0 : W0.cell? ⟨ga, 0, none⟩ = some (.int .i64 a.f0) := (blk_cell BA.out 0).trans rfl
        have z1 : W0.cell? ⟨ga, 1, none⟩ = some (.slice A1 a.f1.length c1) := (blk_cell BA.out 1).trans rfl
        have z2 : W0.cell? ⟨ga, 2, none⟩ = some (.slice A2 a.f2.length c2) := (blk_cell BA.out 2).trans rfl
        have z3 : W0.cell? ⟨ga, 3, none⟩ = some (.slice A3 a.f3.length c3) := (blk_cell BA.out 3).trans rfl
        have y0 : W0.cell? ⟨gb, 0, none⟩ = some (.int .i64 b.f0) := (blk_cell BB.out 0).trans rfl
        have y1 : W0.cell? ⟨gb, 1, none⟩ = some (.slice D1 b.f1.length d1) := (blk_cell BB.out 1).trans rfl
        have y2 : W0.cell? ⟨gb, 2, none⟩ = some (.slice D2 b.f2.length d2) := (blk_cell BB.out 2).trans rfl
        have y3 : W0.cell? ⟨gb, 3, none⟩ = some (.slice D3 b.f3.length d3) := (blk_cell BB.out 3).trans rfl
        refine (sameLine_calls A1 D1 c1 d1 a.f1 b.f1 W0 (Kd.C_below H1.out HB.out) (Kd.C_below K1.out HB.out) hb1).mono ?_
        rintro e w' ⟨rfl, nd, rfl⟩
        rw [eqL_true Q1.out]
        go_wp2_with fail
        go_ret
        exact ⟨ret_b (eqG_false HE.out).symm, pw_below_drewN HB.out _⟩
    · have HE := Aside0.mk (show a ≠ b from fun e => q1 (by rw [e]))
      have t0 : (a.f0 == b.f0) = true := beq_iff_eq.mpr q0
      have t0' : (a.f0 != b.f0) = false := bne_eq_false_iff_eq.mpr q0
      have Q1 := Aside0.mk q1
      clear q0 q1
      go_wp2_with fail
      obtain ⟨ga, hga⟩ : ∃ x, x = w.heap.size := ⟨_, rfl⟩
      obtain ⟨gb, hgb⟩ : ∃ x, x = w.heap.size + 1 := ⟨_, rfl⟩
      obtain ⟨W0, hW0⟩ : ∃ x, x = ((w.alloc (.cells #[.int .i64 a.f0, .slice A1 a.f1.length c1, .slice A2 a.f2.length c2, .slice A3 a.f3.length c3] 28)).alloc (.cells #[.int .i64 b.f0, .slice D1 b.f1.length d1, .slice D2 b.f2.length d2, .slice D3 b.f3.length d3] 28)) := ⟨_, rfl⟩
      rw [← hW0, ← hgb, ← hga]
      have BA := Aside0.mk (show W0.heap[ga]? = some (.cells #[.int .i64 a.f0, .slice A1 a.f1.length c1, .slice A2 a.f2.length c2, .slice A3 a.f3.length c3] 28 (0, 0)) by rw [hW0, hga]; exact blk_alloc (World.alloc_heap_new _ _) _)
      have BB := Aside0.mk (show W0.heap[gb]? = some (.cells #[.int .i64 b.f0, .slice D1 b.f1.length d1, .slice D2 b.f2.length d2, .slice D3 b.f3.length d3] 28 (0, 0)) by
        rw [hW0, hgb]
        have h := World.alloc_heap_new (w.alloc (.cells #[.int .i64 a.f0, .slice A1 a.f1.length c1, .slice A2 a.f2.length c2, .slice A3 a.f3.length c3] 28)) (.cells #[.int .i64 b.f0, .slice D1 b.f1.length d1, .slice D2 b.f2.length d2, .slice D3 b.f3.length d3] 28)
        simpa using h)
      have HB := Aside0.mk (show Below w.heap.size w W0 by rw [hW0]; exact below_alloc (below_alloc (Below.refl _ _) _) _)
      have HGA := Aside0.mk hga
      clear hW0 hga hgb HB0
      have z0 : W0.cell? ⟨ga, 0, none⟩ = some (.int .i64 a.f0) := (blk_cell BA.out 0).trans rfl
      have z1 : W0.cell? ⟨ga, 1, none⟩ = some (.slice A1 a.f1.length c1) := (blk_cell BA.out 1).trans rfl
      have z2 : W0.cell? ⟨ga, 2, none⟩ = some (.slice A2 a.f2.length c2) := (blk_cell BA.out 2).trans rfl
      have z3 : W0.cell? ⟨ga, 3, none⟩ = some (.slice A3 a.f3.length c3) := (blk_cell BA.out 3).trans rfl
      have y0 : W0.cell? ⟨gb, 0, none⟩ = some (.int .i64 b.f0) := (blk_cell BB.out 0).trans rfl
      have y1 : W0.cell? ⟨gb, 1, none⟩ = some (.slice D1 b.f1.length d1) := (blk_cell BB.out 1).trans rfl
      have y2 : W0.cell? ⟨gb, 2, none⟩ = some (.slice D2 b.f2.length d2) := (blk_cell BB.out 2).trans rfl
      have y3 : W0.cell? ⟨gb, 3, none⟩ = some (.slice D3 b.f3.length d3) := (blk_cell BB.out 3).trans rfl
      refine (sameLine_calls A1 D1 c1 d1 a.f1 b.f1 W0 (Kd.C_below H1.out HB.out) (Kd.C_below K1.out HB.out) hb1).mono ?_
      rintro e w' ⟨rfl, nd, rfl⟩
      rw [eqL_false Q1.out]
      go_wp2_with fail
      go_ret
      exact ⟨ret_b (eqG_false HE.out).symm, pw_below_drewN HB.out _⟩
  · have HE := Aside0.mk (show a ≠ b from fun e => q0 (by rw [e]))
    have t0 : (a.f0 == b.f0) = false := beq_eq_false_iff_ne.mpr q0
    have t0' : (a.f0 != b.f0) = true := bne_iff_ne.mpr q0
    clear q0
    go_wp2_with fail
    obtain ⟨ga, hga⟩ : ∃ x, x = w.heap.size := ⟨_, rfl⟩
    obtain ⟨gb, hgb⟩ : ∃ x, x = w.heap.size + 1 := ⟨_, rfl⟩
    obtain ⟨W0, hW0⟩ : ∃ x, x = ((w.alloc (.cells #[.int .i64 a.f0, .slice A1 a.f1.length c1, .slice A2 a.f2.length c2, .slice A3 a.f3.length c3] 28)).alloc (.cells #[.int .i64 b.f0, .slice D1 b.f1.length d1, .slice D2 b.f2.length d2, .slice D3 b.f3.length d3] 28)) := ⟨_, rfl⟩
    rw [← hW0, ← hgb, ← hga]
    have BA := Aside0.mk (show W0.heap[ga]? = some (.cells #[.int .i64 a.f0, .slice A1 a.f1.length c1, .slice A2 a.f2.length c2, .slice A3 a.f3.length c3] 28 (0, 0)) by rw [hW0, hga]; exact blk_alloc (World.alloc_heap_new _ _) _)
    have BB := Aside0.mk (show W0.heap[gb]? = some (.cells #[.int .i64 b.f0, .slice D1 b.f1.length d1, .slice D2 b.f2.length d2, .slice D3 b.f3.length d3] 28 (0, 0)) by
      rw [hW0, hgb]
      have h := World.alloc_heap_new (w.alloc (.cells #[.int .i64 a.f0, .slice A1 a.f1.length c1, .slice A2 a.f2.length c2, .slice A3 a.f3.length c3] 28)) (.cells #[.int .i64 b.f0, .slice D1 b.f1.length d1, .slice D2 b.f2.length d2, .slice D3 b.f3.length d3] 28)
      simpa using h)
    have HB := Aside0.mk (show Below w.heap.size w W0 by rw [hW0]; exact below_alloc (below_alloc (Below.refl _ _) _) _)
    have HGA := Aside0.mk hga
    clear hW0 hga hgb HB0
    have z0 : W0.cell? ⟨ga, 0, none⟩ = some (.int .i64 a.f0) := (blk_cell BA.out 0).trans rfl
    have z1 : W0.cell? ⟨ga, 1, none⟩ = some (.slice A1 a.f1.length c1) := (blk_cell BA.out 1).trans rfl
    have z2 : W0.cell? ⟨ga, 2, none⟩ = some (.slice A2 a.f2.length c2) := (blk_cell BA.out 2).trans rfl
    have z3 : W0.cell? ⟨ga, 3, none⟩ = some (.slice A3 a.f3.length c3) := (blk_cell BA.out 3).trans rfl
    have y0 : W0.cell? ⟨gb, 0, none⟩ = some (.int .i64 b.f0) := (blk_cell BB.out 0).trans rfl
    have y1 : W0.cell? ⟨gb, 1, none⟩ = some (.slice D1 b.f1.length d1) := (blk_cell BB.out 1).trans rfl
    have y2 : W0.cell? ⟨gb, 2, none⟩ = some (.slice D2 b.f2.length d2) := (blk_cell BB.out 2).trans rfl
    have y3 : W0.cell? ⟨gb, 3, none⟩ = some (.slice D3 b.f3.length d3) := (blk_cell BB.out 3).trans rfl
    go_ret
    exact ⟨ret_b (eqG_false HE.out).symm, by rw [HGA.out]; exact HB.out⟩
end Go.Proofs.Ytiiolhnpnlmkjaa.Tree
