/- Texts of this claim laid one behind the other (TParseL; PCt; TBytes; TEqSem; TSame; TEqualW; TWAlive; TLawLimits; TLawCuts): what each proves stands at its own names; the last one is the claim's. No conditions but those told. -/
import Derived.Test.YtiiolhnpnlmkjaaDoorZTj
import Derived.Test.YtiiolhnpnlmkjaaDoorProg
import Derived.Below
import Derived.Deep.Draws
import Derived.Deep.AppendLies
import Derived.Maps.AppendAt
import Derived.OwnWalk
import Derived.Laws.BytesArg
import Derived.Laws.MakeOwn
import Derived.Laws.OwnMore
import Derived.Deep.OwnRows
import Derived.Tactics
import Derived.Lib.ConvBytes
import Derived.Laws.Slices
import Derived.WalkKit
import Derived.KernelRfl
import Derived.RowKit3
import Derived.Deep.LoopGhost
import Derived.Deep.QuietTactic
import Derived.BigQuiet
import Derived.WideLaws
import Derived.Deep.DeepCutAuto
import Derived.Deep.CutBlock
import Derived.Deep.RegionHeld3
import Derived.Laws.Rows
import Derived.Lib.AppendStr
import Derived.ArgAppend
import Derived.Laws.IdiomCopy
import Derived.OrdersHeld
import Derived.Laws.BitsLemmas
import Derived.RowKit
import Derived.Test.YtiiolhnpnlmkjaaDoorMathCopy
import Derived.Test.YtiiolhnpnlmkjaaDoorMathMake
import Derived.IntWalk
import Derived.Laws.BitsAllLaws
import Derived.RegionTactic
import Derived.Test.YtiiolhnpnlmkjaaDoorWWords
import Derived.Test.YtiiolhnpnlmkjaaDoorWLast
import Derived.Test.YtiiolhnpnlmkjaaDoorWTab
import Derived.Test.YtiiolhnpnlmkjaaDoorWFour
import Derived.Test.YtiiolhnpnlmkjaaDoorWQPut
import Derived.Test.YtiiolhnpnlmkjaaDoorWApart
import Derived.Test.YtiiolhnpnlmkjaaDoorWArr
import Derived.Test.YtiiolhnpnlmkjaaDoorWZeros
import Derived.Test.YtiiolhnpnlmkjaaDoorWFoot
import Derived.Test.YtiiolhnpnlmkjaaDoorWKept
import Derived.Test.YtiiolhnpnlmkjaaDoorWShare
import Derived.Test.YtiiolhnpnlmkjaaDoorWN
import Derived.Test.YtiiolhnpnlmkjaaDoorWFootNe
import Derived.Test.YtiiolhnpnlmkjaaDoorWAt
import Derived.Test.YtiiolhnpnlmkjaaDoorWEqStruct
import Derived.Test.YtiiolhnpnlmkjaaDoorWRepsOne
import Derived.Test.YtiiolhnpnlmkjaaDoorWInv
import Derived.Test.YtiiolhnpnlmkjaaDoorWInvWords
import Derived.Test.YtiiolhnpnlmkjaaDoorWGuard
import Derived.Test.YtiiolhnpnlmkjaaDoorWNEv
import Derived.Test.YtiiolhnpnlmkjaaDoorWMore
import Derived.RangeFuncRecord
namespace Go.Proofs.YtiiolhnpnlmkjaaDoor.Tree
open Go.RowKit Go.Proofs.YtiiolhnpnlmkjaaDoor.PWkbPrints Go.Proofs.YtiiolhnpnlmkjaaDoorW.PrintWords Go.Proofs.YtiiolhnpnlmkjaaDoorW.PrintLast Go.Proofs.YtiiolhnpnlmkjaaDoorW.PrintMore
set_option linter.unusedVariables false
/-! ### plain -/
theorem st_self (X : List Int) : St X 0 X := ⟨[], by simp⟩
theorem parsed_print (os : List Bool) (g : Ge) (depth most : Int) (hG : AllG g 1 0) (hbk : g.bulk ≤ 2097152) (hd : ∀ x ∈ nodes g 1 0, x.f1 ≤ min depth 256) (hm : ((geoB os g 0).length : Int) ≤ min (max most 0) 65536) :
    parsedR (geoB os g 0) depth most = .ok (g, ords os 0 (cntG g)) := by
  unfold parsedR
  rw [if_neg (by omega)]
  have h := (geom2 (c := geoB os g 0) (k := (geoB os g 0).length) (b := geoB os g 0) (List.take_length).symm (Nat.le_refl _) os (min depth 256) g.bulk g 1 0 0 0 257 (Nat.le_refl _) (by omega) hG hd (by omega) (.inl rfl) (st_self _) (Nat.zero_le _)).y (by omega)
  rw [h]
  dsimp only
  rw [if_neg (by omega)]
theorem parsed_cut (os : List Bool) (g : Ge) (depth most : Int) (k : Nat) (hG : AllG g 1 0) (hbk : g.bulk ≤ 2097152) (hd : ∀ x ∈ nodes g 1 0, x.f1 ≤ min depth 256) (hm : ((geoB os g 0).length : Int) ≤ min (max most 0) 65536) (hk : k < (geoB os g 0).length) :
    ∃ p e : Int, parsedR ((geoB os g 0).take k) depth most = .error (p, e) ∧ (e = 160 ∨ e = 173) ∧ 0 ≤ p ∧ p ≤ k := by
  have hl : ((geoB os g 0).take k).length = k := by rw [List.length_take]; omega
  unfold parsedR
  rw [hl, if_neg (by omega)]
  obtain ⟨p, e, h, h1⟩ := (geom2 (c := (geoB os g 0).take k) (k := k) (b := geoB os g 0) rfl (by omega) os (min depth 256) g.bulk g 1 0 0 0 257 (Nat.le_refl _) (by omega) hG hd (by omega) (.inl rfl) (st_self _) (Nat.zero_le _)).n (by omega)
  rw [h]
  exact ⟨p, e, rfl, h1⟩
theorem parsed_trail (os : List Bool) (g : Ge) (X : List Int) (depth most : Int) (hG : AllG g 1 0) (hbk : g.bulk ≤ 2097152) (hd : ∀ x ∈ nodes g 1 0, x.f1 ≤ min depth 256) (hm : (((geoB os g 0) ++ X).length : Int) ≤ min (max most 0) 65536) (hX : X ≠ []) :
    parsedR (geoB os g 0 ++ X) depth most = .error (((geoB os g 0).length : Int), 174) := by
  have hl : (geoB os g 0 ++ X).length = (geoB os g 0).length + X.length := List.length_append
  have hx := List.length_pos_iff.2 hX
  unfold parsedR
  rw [if_neg (by omega)]
  have h := (geom2 (c := geoB os g 0 ++ X) (k := (geoB os g 0 ++ X).length) (b := geoB os g 0 ++ X) (List.take_length).symm (Nat.le_refl _) os (min depth 256) g.bulk g 1 0 0 0 257 (Nat.le_refl _) (by omega) hG hd (by omega) (.inl rfl) ⟨X, by simp⟩ (Nat.zero_le _)).y (by omega)
  rw [h]
  dsimp only
  rw [if_pos (by omega)]
  simp
/-! ### the depth -/
/-! ### Parse by its answer -/
theorem parse_ok (A : Option Addr) (c : Nat) (b : List Int) (depth most : Int) (W : World) (g : Ge) (os : List Bool) (hC : kB.C W A b.length b) (hc : b.length ≤ c) (hl : b.length ≤ 1048576) (h : parsedR b depth most = .ok (g, os)) :
    Calls Tryd.prog 13 #[.slice A b.length c, .int .i64 depth, .int .i64 most] W fun e W' => ∃ A1 c1 A2 c2 A3 c3, e = .returned (.tuple #[.agg #[.int .i64 g.f0, .slice A1 g.f1.length c1, .slice A2 g.f2.length c2, .slice A3 g.f3.length c3], .nilIface]) ∧
      CopyOf 257 W W' (.agg #[.int .i64 g.f0, .slice A1 g.f1.length c1, .slice A2 g.f2.length c2, .slice A3 g.f3.length c3]) g ∧ Below W.heap.size W W' := by
  refine (parse_calls A c b depth most W hC hc hl).mono ?_
  rintro e W' ⟨u, ev, rfl, hb, -, hO⟩
  obtain ⟨rfl, hcp⟩ := hO _ h
  obtain ⟨A1, c1, A2, c2, A3, c3, rfl, _⟩ := hcp.isG
  exact ⟨A1, c1, A2, c2, A3, c3, rfl, hcp, hb⟩
theorem parse_err (A : Option Addr) (c : Nat) (b : List Int) (depth most : Int) (W : World) (x : Int × Int) (hC : kB.C W A b.length b) (hc : b.length ≤ c) (hl : b.length ≤ 1048576) (h : parsedR b depth most = .error x) :
    Calls Tryd.prog 13 #[.slice A b.length c, .int .i64 depth, .int .i64 most] W fun e W' => ∃ ge : Nat, e = .returned (.tuple #[.agg #[.int .i64 0, .slice none 0 0, .slice none 0 0, .slice none 0 0], .iface 109 (.pointer (some ⟨ge, 0, none⟩))]) ∧
      ErrV W' (.iface 109 (.pointer (some ⟨ge, 0, none⟩))) (some x) ∧ Below W.heap.size W W' := by
  refine (parse_calls A c b depth most W hC hc hl).mono ?_
  rintro e W' ⟨u, ev, rfl, hb, hE, -⟩
  obtain ⟨rfl, hev⟩ := hE _ h
  obtain ⟨ge, rfl⟩ := ErrV.iface hev
  exact ⟨ge, rfl, hev, hb⟩
end Go.Proofs.YtiiolhnpnlmkjaaDoor.Tree
namespace Go.Proofs.YtiiolhnpnlmkjaaDoor.PCt
open Go.RowKit Go.Proofs.YtiiolhnpnlmkjaaDoorW.PrintWords Go.Proofs.YtiiolhnpnlmkjaaDoorW.PrintLast Go.Proofs.YtiiolhnpnlmkjaaDoorW.PrintMore Go.Proofs.YtiiolhnpnlmkjaaDoor.Tree
attribute [local go_sem] max2_int min2_int max_two min_two max_three min_three max_four min_four
set_option linter.unusedVariables false
set_option linter.unusedSimpArgs false

theorem info5 : (Tryd.prog.info? 5).map (fun i => (i.zero, i.size, i.bytes)) = some (some (.int .u8 0), 1, 1) := by kernel_rfl
theorem info82 : (Tryd.prog.info? 82).map (fun i => (i.zero, i.size, i.bytes)) = some (some (.agg #[(.int .u64 0), (.int .u64 0)]), 2, 16) := by kernel_rfl
/-! ### plumblaw17_cut: function 11 -/
def plumblaw17_cut.l0 : Nat → List Int → List Int → Int → Option (List Int)
  | 0, _, _, _ => none
  | k + 1, x0, x3, x4 => if x4 < (x0.length : Int) then (if x4 < 1500 then (if 0 ≤ x4 then (if x3.length < 140737488355328 then (plumblaw17_cut.l0 k x0 (x3 ++ [rd x0 x4]) (wrap64 (x4 + 1))) else (none)) else (none)) else (some x3)) else (some x3)
def plumblaw17_cut.f (k : Nat) (l0 : List Int) : Option (List Int) := plumblaw17_cut.l0 k l0 ([] : List Int) 0
theorem plumblaw17_cut.mono_l : ∀ k, (∀ y0 y1 y2, LeO (plumblaw17_cut.l0 k y0 y1 y2) (plumblaw17_cut.l0 (k + 1) y0 y1 y2))
  | 0 => fun _ _ _ r h => by simp [plumblaw17_cut.l0] at h
  | k + 1 => by
    have ih0 := plumblaw17_cut.mono_l k
    · intro y0 y1 y2
      unfold plumblaw17_cut.l0
      repeat' first
      | (with_reducible exact ih0 _ _ _)
      | (with_reducible exact LeO.refl _)
      | (with_reducible exact LeO.none _)
      | (with_reducible refine LeO.ite ?_ ?_)
      | (with_reducible refine LeO.bind ?_ (fun _ => ?_))
      | exact ih0 _ _ _
      | exact LeO.none _
      | refine LeO.ite ?_ ?_
      | refine LeO.bind ?_ (fun _ => ?_)
theorem plumblaw17_cut.mono : ∀ a0 k, LeO (plumblaw17_cut.f k a0) (plumblaw17_cut.f (k + 1) a0) := by
  intro a0 k
  have ih0 := plumblaw17_cut.mono_l k
  unfold plumblaw17_cut.f
  repeat' first
      | (with_reducible exact ih0 _ _ _)
      | (with_reducible exact LeO.refl _)
      | (with_reducible exact LeO.none _)
      | (with_reducible refine LeO.ite ?_ ?_)
      | (with_reducible refine LeO.bind ?_ (fun _ => ?_))
      | exact ih0 _ _ _
      | exact LeO.none _
      | refine LeO.ite ?_ ?_
      | refine LeO.bind ?_ (fun _ => ?_)
set_option maxHeartbeats 8000000 in
set_option maxRecDepth 100000 in
theorem plumblaw17_cut.calls (k : Nat) (A0 : Option Addr) (c0 : Nat) (l0 : List Int) (r : List Int) (w : World) (hr0 : Kd.C (Kd.int .u8) w A0 l0.length l0) (hc0 : l0.length ≤ c0) (h : plumblaw17_cut.f k l0 = some r) :
    Calls Tryd.prog 11 #[.slice A0 l0.length c0] w fun e w' => ∃ v0_ : Value, e = .returned (v0_) ∧ Kd.R (Kd.int .u8) 5 w' w.heap.size (fun _ => True) v0_ r ∧ Below w.heap.size w w' := by
  have HR0 := Aside0.mk hr0
  have HC0 := Aside0.mk hc0
  clear hr0 hc0
  have HB := Aside0.mk (Below.refl w.heap.size w)
  have H : (plumblaw17_cut.l0 k l0 ([] : List Int) 0) = some r := h
  clear h
  have H' := Aside0.mk H
  clear H
  go_enter Tryd.func11, Tryd.ntmps11
  go_wp2
  go_loopg [3, 4] k (fun kq v3 v4 w' => ∃ (x3_1 : List Int) (x4_1 : Int), v4 = .int .i64 x4_1 ∧ Aside0 (plumblaw17_cut.l0 kq l0 x3_1 x4_1 = some r) ∧ Aside0 (kq ≤ k) ∧ Aside0 (Kd.R (Kd.int .u8) 5 w' w.heap.size (fun _ => True) v3 x3_1) ∧ Aside0 (Below w.heap.size w w'))
  case atStart => exact ⟨(([] : List Int)), (0), (by first | rfl | (simp; done) | (simp [*]; done)), H', ⟨Nat.le_refl _⟩, ⟨by first | exact Kd.R_nil _ _ _ _ _ | exact Kd.N_nil _ _ _ _ _ | exact Kd.V_nil _ _ _ _ _ | exact Kd.Q_nil _ _ _ _ _ | exact Kd.S_nil _ _ _ _ _⟩, ⟨by repeat (first | (with_reducible first | exact HB.out | apply below_alloc | apply pw_below_drewN | apply below_drew1) | exact HB.out)⟩⟩
  case round =>
    clear H'
    try clear c1
    obtain ⟨x3_1, x4_1, rfl, HA, HK1, HO_3, HB⟩ := hrel
    cases gk with
    | zero => exact absurd HA.out (by simp [plumblaw17_cut.l0])
    | succ k1 =>
      have H := HA.out
      clear HA
      simp only [plumblaw17_cut.l0] at H
      by_cases c2 : x4_1 < (l0.length : Int)
      · rw [if_pos c2] at H
        have c2b0 : decide (x4_1 < (l0.length : Int)) = true := decide_eq_true c2
        clear c2
        by_cases c3 : x4_1 < 1500
        · rw [if_pos c3] at H
          have c3b0 : decide (x4_1 < 1500) = true := decide_eq_true c3
          clear c3
          by_cases c4 : 0 ≤ x4_1
          · rw [if_pos c4] at H
            have c4b0 : decide (0 ≤ x4_1) = true := decide_eq_true c4
            clear c4
            by_cases c5 : x3_1.length < 140737488355328
            · rw [if_pos c5] at H
              have LMc5 := Aside0.mk c5
              clear c5
              obtain ⟨y102, hy102⟩ : ∃ y_ : List Int, y_ = (x3_1 ++ [rd l0 x4_1]) := ⟨_, rfl⟩
              replace H : (plumblaw17_cut.l0 k1 l0 y102 (wrap64 (x4_1 + 1))) = some r := by first | (rw [hy102]; with_reducible exact H) | (have H2_ := (Option.bind_some _ _).symm.trans H; rw [hy102]; with_reducible exact H2_) | (have H2_ := (Option.bind_some _ _).symm.trans H; with_reducible exact H2_) | with_reducible exact H | (rw [hy102]; exact H) | exact H
              have Ny102 := Aside0.mk hy102
              clear hy102
              have H' := Aside0.mk H
              clear H
              have p101 : 0 ≤ (x4_1 : Int) := of_decide_eq_true (by first | (with_reducible assumption) | assumption)
              have q101 : x4_1 < (l0.length : Int) := of_decide_eq_true (by first | (with_reducible assumption) | assumption)
              obtain ⟨ad101, e101, hx101_0⟩ := Kd.at_int HR0.out x4_1 p101 q101
              cases e101
              replace hx101_0 := (HB.out.cell (World.block_lt_of_cell? w _ hx101_0)).trans hx101_0
              replace p101 := eq_true p101
              replace q101 := eq_true q101
              go_wp2_with (first | ((with_reducible refine gate_builtin (b := .append) (xs := #[.tmp 15, .tmp 20]) rfl ?_); at_builtin; refine Kd.R_append (Kd.int .u8) (w0 := w) w.heap.size rfl (.tmp 15) (.tmp 20) 22 5 (.int .u8 0) 1 rfl Tryd.underlying22 info5 rfl (by decide) (by omega) u3 x3_1 (rd l0 x4_1) [.int .u8 (rd l0 x4_1)] (fun _ => True) (fun _ => False) rfl rfl ?aP (fun _ hk => hk.elim) ?aF ?aO ?aB ?aS ?aL ?_; (case aP => exact rfl); (case aB => exact (by repeat (first | (with_reducible first | exact HB.out | apply below_alloc | apply pw_below_drewN | apply below_drew1) | exact HB.out))); (case aF => exact (fun _ _ => trivial)); (case aO => exact (by (with_reducible repeat (first | apply Kd.R_alloc | apply Kd.R_drewN | apply Kd.R_drew)); exact HO_3.out)); (case aS => exact (below_size (by repeat (first | (with_reducible first | exact HB.out | apply below_alloc | apply pw_below_drewN | apply below_drew1) | exact HB.out)))); (case aL => have := LMc5.out; omega); intro v103 w6 ho hb hg hat; rw [← Ny102.out] at ho; have n0_ := Aside0.mk (hb); have n1_ := Aside0.mk (ho); clear HB; clear HO_3; have HB := n0_; have HO104 := n1_; clear n0_ n1_; clear ho hb hg hat))
              go_roundg k1
              case measure => have := HK1.out; omega
              case rel => exact ⟨(y102), (wrap64 (x4_1 + 1)), (by first | rfl | (simp; done) | (simp [*]; done)), H', ⟨by have := HK1.out; omega⟩, ⟨by (with_reducible repeat (first | apply Kd.R_alloc | apply Kd.R_drewN | apply Kd.R_drew)); exact HO104.out⟩, ⟨by repeat (first | (with_reducible first | exact HB.out | apply below_alloc | apply pw_below_drewN | apply below_drew1) | exact HB.out)⟩⟩
            · rw [if_neg c5] at H
              exact absurd H (by simp)
          · rw [if_neg c4] at H
            exact absurd H (by simp)
        · rw [if_neg c3] at H
          have c3b0 : decide (x4_1 < 1500) = false := decide_eq_false c3
          clear c3
          obtain rfl := Option.some.inj H
          go_wp2
          go_ret
          exact ⟨_, by first | rfl | (simp [errW_none, errW_some] <;> rfl) | (simp [*, errW_none, errW_some] <;> rfl), by (with_reducible repeat (first | apply Kd.R_alloc | apply Kd.R_drewN | apply Kd.R_drew)); exact HO_3.out, by repeat (first | (with_reducible first | exact HB.out | apply below_alloc | apply pw_below_drewN | apply below_drew1) | exact HB.out)⟩
      · rw [if_neg c2] at H
        have c2b0 : decide (x4_1 < (l0.length : Int)) = false := decide_eq_false c2
        clear c2
        obtain rfl := Option.some.inj H
        go_wp2
        go_ret
        exact ⟨_, by first | rfl | (simp [errW_none, errW_some] <;> rfl) | (simp [*, errW_none, errW_some] <;> rfl), by (with_reducible repeat (first | apply Kd.R_alloc | apply Kd.R_drewN | apply Kd.R_drew)); exact HO_3.out, by repeat (first | (with_reducible first | exact HB.out | apply below_alloc | apply pw_below_drewN | apply below_drew1) | exact HB.out)⟩

-- NOT PRINTED: function 56 (api_Wrap)

-- NOT PRINTED: function 58 (octet_NewReader)

-- NOT PRINTED: function 88 (wkb_parser_need)


end Go.Proofs.YtiiolhnpnlmkjaaDoor.PCt
namespace Go.Proofs.YtiiolhnpnlmkjaaDoor.Tree
open Go.RowKit Go.Proofs.YtiiolhnpnlmkjaaDoor.PWkbPrints Go.Proofs.YtiiolhnpnlmkjaaDoorW.PrintWords Go.Proofs.YtiiolhnpnlmkjaaDoorW.PrintLast Go.Proofs.YtiiolhnpnlmkjaaDoorW.PrintMore Go.Proofs.YtiiolhnpnlmkjaaDoor.PCt
set_option linter.unusedVariables false
set_option linter.unusedSimpArgs false
theorem cut_l (l : List Int) : ∀ (d k i : Nat), i + d = min l.length 1500 → d < k → plumblaw17_cut.l0 k l (l.take i) (i : Int) = some (l.take 1500) := by
  intro d
  induction d with
  | zero =>
    intro k i hi hk
    obtain ⟨k, rfl⟩ : ∃ m, k = m + 1 := ⟨k - 1, by omega⟩
    rw [plumblaw17_cut.l0]
    by_cases c1 : (i : Int) < (l.length : Int)
    · rw [if_pos c1, if_neg (by omega), show i = 1500 from by omega]
    · rw [if_neg c1, List.take_of_length_le (by omega), List.take_of_length_le (by omega)]
  | succ d ih =>
    intro k i hi hk
    obtain ⟨k, rfl⟩ : ∃ m, k = m + 1 := ⟨k - 1, by omega⟩
    have e3 : wrap64 ((i : Int) + 1) = ((i + 1 : Nat) : Int) := by unfold wrap64; omega
    have hl : i < l.length := by omega
    have e4 : l.take i ++ [rd l (i : Int)] = l.take (i + 1) := by
      rw [rd, Int.toNat_natCast, List.getD_eq_getElem?_getD, List.getElem?_eq_getElem hl, Option.getD_some, List.take_add_one, List.getElem?_eq_getElem hl]
      rfl
    rw [plumblaw17_cut.l0, if_pos (by omega), if_pos (by omega), if_pos (by omega), if_pos (by rw [List.length_take]; omega), e3, e4]
    exact ih k (i + 1) (by omega) (by omega)
/-- The bytes that a law reads. -/
def cutB (l : List Int) : List Int := l.take 1500
theorem cutB_len (l : List Int) : (cutB l).length ≤ 1500 := by unfold cutB; rw [List.length_take]; omega
theorem cut_calls (A : Option Addr) (c : Nat) (l : List Int) (w : World) (hC : kB.C w A l.length l) (hc : l.length ≤ c) :
    Calls Tryd.prog 11 #[.slice A l.length c] w fun e w' => ∃ u, e = .returned u ∧ kB.R 5 w' w.heap.size (fun _ => True) u (cutB l) ∧ Below w.heap.size w w' :=
  plumblaw17_cut.calls 1502 A c l (cutB l) w hC hc (by
    have h := cut_l l (min l.length 1500) 1502 0 (by omega) (by omega)
    rw [List.take_zero] at h
    exact h)
theorem bool_blk2 {W : World} {g : Nat} {a b : Bool} (h : W.heap[g]? = some (.cells #[.bool a, .bool b] 4 (0, 0))) (hg : 0 ≤ g) : Kd.bool.C W (some ⟨g, 0, none⟩) 2 [a, b] := by
  have h1 : Kd.bool.R 4 W 0 (fun _ => True) (.slice (some ⟨g, 0, none⟩) 2 2) [a, b] :=
    Kd.R_of_own ⟨by simp [encs], .inr ⟨g, 2, #[.bool a, .bool b], rfl, Nat.zero_le _, h, Nat.le_refl _, by decide, by simp, by simp [encs]⟩⟩ (fun _ _ => trivial)
  exact (Kd.R_reads' h1).2.2
end Go.Proofs.YtiiolhnpnlmkjaaDoor.Tree
namespace Go.Proofs.YtiiolhnpnlmkjaaDoor.Tree
open Go.RowKit Go.Proofs.YtiiolhnpnlmkjaaDoorW.PrintWords Go.Proofs.YtiiolhnpnlmkjaaDoorW.PrintLast Go.Proofs.YtiiolhnpnlmkjaaDoorW.PrintMore
set_option linter.unusedVariables false
theorem ge_ext {a b : Ge} (h0 : a.f0 = b.f0) (h1 : a.f1 = b.f1) (h2 : a.f2 = b.f2) (h3 : a.f3 = b.f3) : a = b := by
  cases a; cases b
  dsimp only at h0 h1 h2 h3
  subst h0 h1 h2 h3
  rfl
open Classical in
/-- The same tree? -/
noncomputable def eqG (a b : Ge) : Bool := if a = b then true else false
theorem eqG_true {a b : Ge} (h : a = b) : eqG a b = true := by unfold eqG; exact if_pos h
theorem eqG_false {a b : Ge} (h : a ≠ b) : eqG a b = false := by unfold eqG; exact if_neg h
theorem eqG_iff (a b : Ge) : eqG a b = true ↔ a = b := by
  refine ⟨fun h => ?_, eqG_true⟩
  by_cases e : a = b
  · exact e
  · rw [eqG_false e] at h
    cases h
end Go.Proofs.YtiiolhnpnlmkjaaDoor.Tree
namespace Go.Proofs.YtiiolhnpnlmkjaaDoor.Tree
open Go.RowKit Go.Proofs.YtiiolhnpnlmkjaaDoorW.PrintWords Go.Proofs.YtiiolhnpnlmkjaaDoorW.PrintLast Go.Proofs.YtiiolhnpnlmkjaaDoorW.PrintMore
set_option linter.unusedVariables false
set_option linter.unusedSimpArgs false
deriving instance DecidableEq for Pt
def eqL (a b : List Pt) : Bool := decide (a = b)
theorem eqL_true {a b : List Pt} (h : a = b) : eqL a b = true := decide_eq_true h
theorem eqL_false {a b : List Pt} (h : a ≠ b) : eqL a b = false := decide_eq_false h
theorem eqL_iff (a b : List Pt) : eqL a b = true ↔ a = b := decide_eq_true_iff
set_option maxRecDepth 100000 in
set_option maxHeartbeats 4000000 in
theorem sameLine_calls (A B : Option Addr) (c d : Nat) (a b : List Pt) (w : World) (ha : Kd.C kPt w A a.length a) (hb : Kd.C kPt w B b.length b) (hl : a.length ≤ 1073741824) :
    Calls Tryd.prog 50 #[.slice A a.length c, .slice B b.length d] w fun e w' => e = .returned (.bool (eqL a b)) ∧ ∃ n, w' = w.drewN n := by
  have hu := Tryd.underlying82
  have HA := Aside0.mk ha
  have HB := Aside0.mk hb
  clear ha hb
  by_cases hn : a.length = b.length
  · have q1 : ((a.length : Int) == (b.length : Int)) = true := beq_iff_eq.mpr (by omega)
    have q2 : ((a.length : Int) != (b.length : Int)) = false := bne_eq_false_iff_eq.mpr (by omega)
    have HN := Aside0.mk hn
    clear hn
    go_enter Tryd.func50, Tryd.ntmps50
    go_wp2_with fail
    go_loopg [13] a.length (fun kq i wr => ∃ k : Nat, k + kq = a.length ∧ i = .int .i64 (k : Int) ∧ Aside0 (a.take k = b.take k) ∧ ∃ m, wr = w.drewN m)
    case atStart => exact ⟨0, by omega, rfl, ⟨rfl⟩, 0, rfl⟩
    case round =>
      obtain ⟨k, hk, rfl, HT, m, rfl⟩ := hrel
      cases gk with
      | zero =>
        have hlt : ¬ ((k : Int) < (a.length : Int)) := by omega
        obtain rfl : k = a.length := by omega
        go_wp2_with fail
        go_ret
        refine ⟨ret_b ?_, m, rfl⟩
        have h := HT.out
        rw [List.take_length, HN.out, List.take_length] at h
        rw [eqL_true h]
      | succ kq =>
        have hlt : (k : Int) < (a.length : Int) := by omega
        have hlt1 : k < a.length := by omega
        have hltb' : k < b.length := by have := HN.out; omega
        have hltb : (k : Int) < (b.length : Int) := by omega
        obtain ⟨x1, e1, p0, p1⟩ := at_Pt HA.out (k : Int) (by omega) (by omega)
        obtain ⟨x2, e2, r0, r1⟩ := at_Pt HB.out (k : Int) (by omega) (by omega)
        subst e1 e2
        rw [rd_Pt_at _ _ hlt1, Int.toNat_natCast] at p0 p1
        rw [rd_Pt_at _ _ hltb', Int.toNat_natCast] at r0 r1
        obtain ⟨u, hu1⟩ : ∃ u, u = a[k] := ⟨_, rfl⟩
        obtain ⟨v, hv1⟩ : ∃ v, v = b[k] := ⟨_, rfl⟩
        rw [← hu1] at p0 p1
        rw [← hv1] at r0 r1
        have HU := Aside0.mk hu1
        have HV := Aside0.mk hv1
        clear hu1 hv1
        obtain ⟨u0, u1⟩ := u
        obtain ⟨v0, v1⟩ := v
        dsimp only at p0 p1 r0 r1
        by_cases h0 : u0 = v0
        · have s0 : (u0 == v0) = true := beq_iff_eq.mpr h0
          by_cases h1 : u1 = v1
          · have s1 : (u1 == v1) = true := beq_iff_eq.mpr h1
            have HE := Aside0.mk (show a.take (k + 1) = b.take (k + 1) by
              rw [List.take_succ_eq_append_getElem hlt1, List.take_succ_eq_append_getElem hltb', HT.out, ← HU.out, ← HV.out, h0, h1])
            clear h0 h1
            go_wp2_with fail
            go_quiet (fail)
            go_wp2_with fail
            go_roundg kq
            case measure => omega
            case rel => exact ⟨k + 1, by omega, by go_num, HE, _, rfl⟩
          · have s1 : (u1 == v1) = false := beq_eq_false_iff_ne.mpr h1
            have HE := Aside0.mk (show a ≠ b by rintro rfl; have := HU.out.trans HV.out.symm; injection this; contradiction)
            clear h0 h1
            go_wp2_with fail
            go_quiet (fail)
            go_wp2_with fail
            go_ret
            exact ⟨ret_b (eqL_false HE.out).symm, _, World.drewN_drewN _ _ _⟩
        · have s0 : (u0 == v0) = false := beq_eq_false_iff_ne.mpr h0
          have HE := Aside0.mk (show a ≠ b by rintro rfl; have := HU.out.trans HV.out.symm; injection this; contradiction)
          clear h0
          go_wp2_with fail
          go_quiet (fail)
          go_wp2_with fail
          go_ret
          exact ⟨ret_b (eqL_false HE.out).symm, _, World.drewN_drewN _ _ _⟩
  · have q1 : ((a.length : Int) == (b.length : Int)) = false := beq_eq_false_iff_ne.mpr (by omega)
    have q2 : ((a.length : Int) != (b.length : Int)) = true := bne_iff_ne.mpr (by omega)
    have HE := Aside0.mk (show a ≠ b by rintro rfl; exact hn rfl)
    clear hn
    go_enter Tryd.func50, Tryd.ntmps50
    go_wp2_with fail
    go_ret
    exact ⟨ret_b (eqL_false HE.out).symm, 0, rfl⟩
end Go.Proofs.YtiiolhnpnlmkjaaDoor.Tree
namespace Go.Proofs.YtiiolhnpnlmkjaaDoor.Tree
open Go.RowKit Go.Proofs.YtiiolhnpnlmkjaaDoorW.PrintWords Go.Proofs.YtiiolhnpnlmkjaaDoorW.PrintLast Go.Proofs.YtiiolhnpnlmkjaaDoorW.PrintMore
set_option linter.unusedVariables false
set_option linter.unusedSimpArgs false
set_option maxRecDepth 100000 in
set_option maxHeartbeats 8000000 in
theorem equal_calls (n : Nat) : ∀ (v u : Value) (a b : Ge) (w : World), IsG w v a → IsG w u b → a.bulk ≤ n → n ≤ 1073741824 → b.bulk ≤ 1073741824 →
    Calls Tryd.prog 33 #[v, u] w fun e w' => e = .returned (.bool (eqG a b)) ∧ Below w.heap.size w w' := by
  induction n with
  | zero => intro v u a b w _ _ h; have := a.bulk_eq; omega
  | succ n ih =>
  rintro v u a b w ⟨A1, c1, A2, c2, A3, c3, rfl, l1, h1, l2, h2, l3, h3⟩ ⟨D1, d1, D2, d2, D3, d3, rfl, m1, k1, m2, k2, m3, k3⟩ hbk hn hbb
  have hbq := a.bulk_eq
  have hbq' := b.bulk_eq
  have hb1 : a.f1.length ≤ 1073741824 := by omega
  have hb2 : a.f2.length ≤ 1073741824 := by omega
  have hb3 : a.f3.length ≤ 1073741824 := by have := bulks_len a.f3; omega
  have hd1 : b.f1.length ≤ 1073741824 := by omega
  have hd2 : b.f2.length ≤ 1073741824 := by omega
  have hd3 : b.f3.length ≤ 1073741824 := by have := bulks_len b.f3; omega
  have H1 := Aside0.mk h1
  have H2 := Aside0.mk h2
  have H3 := Aside0.mk h3
  have K1 := Aside0.mk k1
  have K2 := Aside0.mk k2
  have K3 := Aside0.mk k3
  have U := Aside0.mk (upTo_le a.f2)
  have HBQ := Aside0.mk (And.intro hbk (And.intro hbq (And.intro hbb hbq')))
  have IH := Aside0.mk ih
  have HN := Aside0.mk hn
  clear h1 h2 h3 k1 k2 k3 ih hbk hbq hbb hbq' l1 l2 l3 m1 m2 m3 hn
  have hmx : Tryd.prog.follows .mixedOrders = true := by kernel_rfl
  have hun := Tryd.underlying28
  go_enter Tryd.func33, Tryd.ntmps33
  have HB0 := Aside0.mk (Below.refl w.heap.size w)
  by_cases q0 : a.f0 = b.f0
  · by_cases q1 : a.f1 = b.f1
    · by_cases q2 : a.f2.length = b.f2.length
      · by_cases q3 : a.f3.length = b.f3.length
        · have Q0 := Aside0.mk q0
          have Q1 := Aside0.mk q1
          have Q2 := Aside0.mk q2
          have Q3 := Aside0.mk q3
          have t0 : (a.f0 == b.f0) = true := beq_iff_eq.mpr q0
          have t0' : (a.f0 != b.f0) = false := bne_eq_false_iff_eq.mpr q0
          have t2 : ((a.f2.length : Int) == (b.f2.length : Int)) = true := beq_iff_eq.mpr (by omega)
          have t2' : ((a.f2.length : Int) != (b.f2.length : Int)) = false := bne_eq_false_iff_eq.mpr (by omega)
          have t3 : ((a.f3.length : Int) == (b.f3.length : Int)) = true := beq_iff_eq.mpr (by omega)
          have t3' : ((a.f3.length : Int) != (b.f3.length : Int)) = false := bne_eq_false_iff_eq.mpr (by omega)
          clear q0 q1 q2 q3
          go_wp2_with fail
          obtain ⟨ga, hga⟩ : ∃ x, x = w.heap.size := ⟨_, rfl⟩
          obtain ⟨gb, hgb⟩ : ∃ x, x = w.heap.size + 1 := ⟨_, rfl⟩
          obtain ⟨W0, hW0⟩ : ∃ x, x = ((w.alloc (.cells #[.int .i64 a.f0, .slice A1 a.f1.length c1, .slice A2 a.f2.length c2, .slice A3 a.f3.length c3] 28)).alloc (.cells #[.int .i64 b.f0, .slice D1 b.f1.length d1, .slice D2 b.f2.length d2, .slice D3 b.f3.length d3] 28)) := ⟨_, rfl⟩
          rw [← hW0, ← hgb, ← hga]
          have BA := Aside0.mk (show W0.heap[ga]? = some (.cells #[.int .i64 a.f0, .slice A1 a.f1.length c1, .slice A2 a.f2.length c2, .slice A3 a.f3.length c3] 28 (0, 0)) by rw [hW0, hga]; exact blk_alloc (World.alloc_heap_new _ _) _)
          have BB := Aside0.mk (show W0.heap[gb]? = some (.cells #[.int .i64 b.f0, .slice D1 b.f1.length d1, .slice D2 b.f2.length d2, .slice D3 b.f3.length d3] 28 (0, 0)) by
            rw [hW0, hgb]
            have h := World.alloc_heap_new (w.alloc (.cells #[.int .i64 a.f0, .slice A1 a.f1.length c1, .slice A2 a.f2.length c2, .slice A3 a.f3.length c3] 28)) (.cells #[.int .i64 b.f0, .slice D1 b.f1.length d1, .slice D2 b.f2.length d2, .slice D3 b.f3.length d3] 28)
            simpa using h)
          have HB := Aside0.mk (show Below w.heap.size w W0 by rw [hW0]; exact below_alloc (below_alloc (Below.refl _ _) _) _)
          have HGA := Aside0.mk hga
          clear hW0 hga hgb HB0
          have z0 : W0.cell? ⟨ga, 0, none⟩ = some (.int .i64 a.f0) := (blk_cell BA.out 0).trans rfl
          have z1 : W0.cell? ⟨ga, 1, none⟩ = some (.slice A1 a.f1.length c1) := (blk_cell BA.out 1).trans rfl
          have z2 : W0.cell? ⟨ga, 2, none⟩ = some (.slice A2 a.f2.length c2) := (blk_cell BA.out 2).trans rfl
          have z3 : W0.cell? ⟨ga, 3, none⟩ = some (.slice A3 a.f3.length c3) := (blk_cell BA.out 3).trans rfl
          have y0 : W0.cell? ⟨gb, 0, none⟩ = some (.int .i64 b.f0) := (blk_cell BB.out 0).trans rfl
          have y1 : W0.cell? ⟨gb, 1, none⟩ = some (.slice D1 b.f1.length d1) := (blk_cell BB.out 1).trans rfl
          have y2 : W0.cell? ⟨gb, 2, none⟩ = some (.slice D2 b.f2.length d2) := (blk_cell BB.out 2).trans rfl
          have y3 : W0.cell? ⟨gb, 3, none⟩ = some (.slice D3 b.f3.length d3) := (blk_cell BB.out 3).trans rfl
          refine (sameLine_calls A1 D1 c1 d1 a.f1 b.f1 W0 (Kd.C_below H1.out HB.out) (Kd.C_below K1.out HB.out) hb1).mono ?_
          rintro e w' ⟨rfl, nd, rfl⟩
          rw [eqL_true Q1.out]
          have YQ := Aside0.mk (And.intro y2 y3)
          have HL2 := Aside0.mk (show (a.f2.length : Int) = (b.f2.length : Int) by have := Q2.out; omega)
          go_wp2_with fail
          go_loopg [41] a.f2.length (fun kq i wr => ∃ j : Nat, j + kq = a.f2.length ∧ i = .int .i64 (j : Int) ∧ Aside0 (a.f2.take j = b.f2.take j) ∧ ∃ m, wr = W0.drewN m)
          case atStart => exact ⟨0, by omega, rfl, ⟨rfl⟩, nd, rfl⟩
          case round =>
            obtain ⟨j, hj, rfl, HT, m, rfl⟩ := hrel
            cases gk with
            | zero =>
              have hlt : ¬ ((j : Int) < (a.f2.length : Int)) := by omega
              obtain rfl : j = a.f2.length := by omega
              have HF2 := Aside0.mk (show a.f2 = b.f2 by
                have h := HT.out
                rw [List.take_length, Q2.out, List.take_length] at h
                exact h)
              clear HT hj
              go_wp2_with fail
              have Z3 := Aside0.mk z3
              have Y3 := Aside0.mk y3
              go_loopg [60] a.f3.length (fun kq i wr => ∃ j : Nat, j + kq = a.f3.length ∧ i = .int .i64 (j : Int) ∧ Aside0 (a.f3.take j = b.f3.take j) ∧ Aside0 (Below W0.heap.size W0 wr))
              case atStart => exact ⟨0, by omega, rfl, ⟨rfl⟩, ⟨by repeat (first | exact Below.refl _ _ | apply pw_below_drewN)⟩⟩
              case round =>
                obtain ⟨j, hj, rfl, HT, HW⟩ := hrel
                have z3' := cell_below HW.out Z3.out
                have y3' := cell_below HW.out Y3.out
                cases gk with
                | zero =>
                  have hlt : ¬ ((j : Int) < (a.f3.length : Int)) := by omega
                  obtain rfl : j = a.f3.length := by omega
                  have HE := Aside0.mk (show a = b by
                    have h := HT.out
                    rw [List.take_length, Q3.out, List.take_length] at h
                    exact ge_ext Q0.out Q1.out HF2.out h)
                  go_wp2_with fail
                  go_ret
                  exact ⟨ret_b (eqG_true HE.out).symm, below_step HB.out HW.out⟩
                | succ kq =>
                  have hlt : j < a.f3.length := by omega
                  have hltb : j < b.f3.length := by have := Q3.out; omega
                  obtain ⟨q3, B1, b1, B2, b2, B3, b3, ea, u0, u1, u2, u3, n1, o1, n2, o2, n3, o3⟩ := at_Ge H3.out j (by omega) (by omega)
                  obtain ⟨a3, F1, f1, F2, f2, F3, f3, eb, t0, t1, t2, t3, m1, p1, m2, p2, m3, p3⟩ := at_Ge K3.out j (by omega) (by omega)
                  subst ea eb
                  rw [rd_Ge_at _ _ hlt] at u0 u1 u2 u3 o1 o2 o3 n1 n2 n3
                  rw [rd_Ge_at _ _ hltb] at t0 t1 t2 t3 p1 p2 p3 m1 m2 m3
                  rw [Int.toNat_natCast] at u0 u1 u2 u3 t0 t1 t2 t3
                  obtain ⟨ka, hka⟩ : ∃ k, k = a.f3[j] := ⟨_, rfl⟩
                  obtain ⟨kb, hkb⟩ : ∃ k, k = b.f3[j] := ⟨_, rfl⟩
                  rw [← hka] at u0 u1 u2 u3 o1 o2 o3 n1 n2 n3
                  rw [← hkb] at t0 t1 t2 t3 p1 p2 p3 m1 m2 m3
                  have HIA := Aside0.mk (show IsG w (.agg #[.int .i64 ka.f0, .slice B1 ka.f1.length b1, .slice B2 ka.f2.length b2, .slice B3 ka.f3.length b3]) ka from ⟨B1, b1, B2, b2, B3, b3, rfl, n1, o1, n2, o2, n3, o3⟩)
                  have HIB := Aside0.mk (show IsG w (.agg #[.int .i64 kb.f0, .slice F1 kb.f1.length f1, .slice F2 kb.f2.length f2, .slice F3 kb.f3.length f3]) kb from ⟨F1, f1, F2, f2, F3, f3, rfl, m1, p1, m2, p2, m3, p3⟩)
                  have U0 := Aside0.mk (cell_below HB.out u0)
                  have U1 := Aside0.mk (cell_below HB.out u1)
                  have U2 := Aside0.mk (cell_below HB.out u2)
                  have U3 := Aside0.mk (cell_below HB.out u3)
                  have V0 := Aside0.mk (cell_below HB.out t0)
                  have V1 := Aside0.mk (cell_below HB.out t1)
                  have V2 := Aside0.mk (cell_below HB.out t2)
                  have V3 := Aside0.mk (cell_below HB.out t3)
                  have hpa : ka.bulk ≤ n := by rw [hka]; have := bulks_mem (List.getElem_mem hlt); have := HBQ.out.1; have := HBQ.out.2.1; omega
                  have hpb : kb.bulk ≤ 1073741824 := by rw [hkb]; have := bulks_mem (List.getElem_mem hltb); have := HBQ.out.2.2.1; have := HBQ.out.2.2.2; omega
                  have HTa := Aside0.mk (show a.f3.take (j + 1) = a.f3.take j ++ [ka] by rw [List.take_succ_eq_append_getElem hlt, hka])
                  have HTb := Aside0.mk (show b.f3.take (j + 1) = b.f3.take j ++ [kb] by rw [List.take_succ_eq_append_getElem hltb, hkb])
                  have HPA := Aside0.mk (And.intro hpa hpb)
                  clear u0 u1 u2 u3 t0 t1 t2 t3 n1 o1 n2 o2 n3 o3 m1 p1 m2 p2 m3 p3 hka hkb hpa hpb
                  have i0 : (0 : Int) ≤ (j : Int) := by omega
                  have i1 : (j : Int) < (a.f3.length : Int) := by omega
                  have i2 : (j : Int) < (b.f3.length : Int) := by have := Q3.out; omega
                  go_wp2_with fail
                  refine start_ (n := 12) (S := fun w' => w'.cell? ⟨ga, 3, none⟩ = some (.slice (some q3) a.f3.length c3) ∧ w'.cell? ⟨gb, 3, none⟩ = some (.slice (some a3) b.f3.length d3) ∧ w'.cell? (q3.add (j * 4)) = some (.int .i64 ka.f0) ∧ w'.cell? ⟨(q3.add (j * 4)).block, (q3.add (j * 4)).off + 1, none⟩ = some (.slice B1 ka.f1.length b1) ∧ w'.cell? ⟨(q3.add (j * 4)).block, (q3.add (j * 4)).off + 2, none⟩ = some (.slice B2 ka.f2.length b2) ∧ w'.cell? ⟨(q3.add (j * 4)).block, (q3.add (j * 4)).off + 3, none⟩ = some (.slice B3 ka.f3.length b3) ∧ w'.cell? (a3.add (j * 4)) = some (.int .i64 kb.f0) ∧ w'.cell? ⟨(a3.add (j * 4)).block, (a3.add (j * 4)).off + 1, none⟩ = some (.slice F1 kb.f1.length f1) ∧ w'.cell? ⟨(a3.add (j * 4)).block, (a3.add (j * 4)).off + 2, none⟩ = some (.slice F2 kb.f2.length f2) ∧ w'.cell? ⟨(a3.add (j * 4)).block, (a3.add (j * 4)).off + 3, none⟩ = some (.slice F3 kb.f3.length f3) ∧ True) (ds := []) #[false, false, false, false, false, false, false, false, false, false, false, false] hmx rfl rfl ⟨cell_below (below_drew HW.out) Z3.out, cell_below (below_drew HW.out) Y3.out, cell_below (below_drew HW.out) U0.out, cell_below (below_drew HW.out) U1.out, cell_below (below_drew HW.out) U2.out, cell_below (below_drew HW.out) U3.out, cell_below (below_drew HW.out) V0.out, cell_below (below_drew HW.out) V1.out, cell_below (below_drew HW.out) V2.out, cell_below (below_drew HW.out) V3.out, trivial⟩ (fun hHeld => ?_)
                  have HWd := Aside0.mk (below_drew HW.out)
                  clear z3' y3'
                  generalize wr.drew = Wd at HWd hHeld ⊢
                  (refine pure_ (i := 0) (N := some 63) (v := ?_) (a' := ?_) #[true, false, false, false, false, false, false, false, false, false, false, false] rfl rfl (by kernel_rfl) (fun _ _ _ h => h) (Or.inl ⟨by rfl, ?_⟩) ?_ ?_; rotate_left; (focus (intro w'_; go_simp; with_reducible rfl)); rotate_left; (focus (simp only [Act.put, List.setIfInBounds_toArray, List.set_cons_zero, List.set_cons_succ]; rfl)))
                  (refine pure_ (i := 2) (N := some 65) (v := ?_) (a' := ?_) #[true, false, true, false, false, false, false, false, false, false, false, false] rfl rfl (by kernel_rfl) (fun _ _ _ h => h) (Or.inl ⟨by rfl, ?_⟩) ?_ ?_; rotate_left; (focus (intro w'_; go_simp; with_reducible rfl)); rotate_left; (focus (simp only [Act.put, List.setIfInBounds_toArray, List.set_cons_zero, List.set_cons_succ]; rfl)))
                  (refine pure_ (i := 5) (N := some 68) (v := ?_) (a' := ?_) #[true, false, true, false, false, true, false, false, false, false, false, false] rfl rfl (by kernel_rfl) (fun _ _ _ h => h) (Or.inl ⟨by rfl, ?_⟩) ?_ ?_; rotate_left; (focus (intro w'_; go_simp; with_reducible rfl)); rotate_left; (focus (simp only [Act.put, List.setIfInBounds_toArray, List.set_cons_zero, List.set_cons_succ]; rfl)))
                  (refine pure_ (i := 7) (N := some 70) (v := ?_) (a' := ?_) #[true, false, true, false, false, true, false, true, false, false, false, false] rfl rfl (by kernel_rfl) (fun _ _ _ h => h) (Or.inl ⟨by rfl, ?_⟩) ?_ ?_; rotate_left; (focus (intro w'_; go_simp; with_reducible rfl)); rotate_left; (focus (simp only [Act.put, List.setIfInBounds_toArray, List.set_cons_zero, List.set_cons_succ]; rfl)))
                  (refine take_ (i := 1) (N := some 64) (v := ?_) (a' := ?_) #[true, true, true, false, false, true, false, true, false, false, false, false] rfl rfl (by kernel_rfl) (fun _ _ _ h => h) (Or.inl ⟨by rfl, ?_⟩) hHeld ?_ ?_; rotate_left; (focus (intro w'_ hs_; (repeat obtain ⟨_, hs_⟩ := hs_); go_simp; with_reducible rfl)); rotate_left; (focus (simp only [Act.put, List.setIfInBounds_toArray, List.set_cons_zero, List.set_cons_succ]; rfl)))
                  (refine take_ (i := 6) (N := some 69) (v := ?_) (a' := ?_) #[true, true, true, false, false, true, true, true, false, false, false, false] rfl rfl (by kernel_rfl) (fun _ _ _ h => h) (Or.inl ⟨by rfl, ?_⟩) hHeld ?_ ?_; rotate_left; (focus (intro w'_ hs_; (repeat obtain ⟨_, hs_⟩ := hs_); go_simp; with_reducible rfl)); rotate_left; (focus (simp only [Act.put, List.setIfInBounds_toArray, List.set_cons_zero, List.set_cons_succ]; rfl)))
                  (refine pure_ (i := 3) (N := some 66) (v := ?_) (a' := ?_) #[true, true, true, true, false, true, true, true, false, false, false, false] rfl rfl (by kernel_rfl) (fun _ _ _ h => h) (Or.inl ⟨by rfl, ?_⟩) ?_ ?_; rotate_left; (focus (intro w'_; go_simp; with_reducible rfl)); rotate_left; (focus (simp only [Act.put, List.setIfInBounds_toArray, List.set_cons_zero, List.set_cons_succ]; rfl)))
                  (refine pure_ (i := 8) (N := some 71) (v := ?_) (a' := ?_) #[true, true, true, true, false, true, true, true, true, false, false, false] rfl rfl (by kernel_rfl) (fun _ _ _ h => h) (Or.inl ⟨by rfl, ?_⟩) ?_ ?_; rotate_left; (focus (intro w'_; go_simp; with_reducible rfl)); rotate_left; (focus (simp only [Act.put, List.setIfInBounds_toArray, List.set_cons_zero, List.set_cons_succ]; rfl)))
                  (refine take_ (i := 4) (N := some 67) (v := ?_) (a' := ?_) #[true, true, true, true, true, true, true, true, true, false, false, false] rfl rfl (by kernel_rfl) (fun _ _ _ h => h) (Or.inl ⟨by rfl, ?_⟩) hHeld ?_ ?_; rotate_left; (focus (intro w'_ hs_; (repeat obtain ⟨_, hs_⟩ := hs_); go_simp; with_reducible rfl)); rotate_left; (focus (simp only [Act.put, List.setIfInBounds_toArray, List.set_cons_zero, List.set_cons_succ]; rfl)))
                  (refine take_ (i := 9) (N := some 72) (v := ?_) (a' := ?_) #[true, true, true, true, true, true, true, true, true, true, false, false] rfl rfl (by kernel_rfl) (fun _ _ _ h => h) (Or.inl ⟨by rfl, ?_⟩) hHeld ?_ ?_; rotate_left; (focus (intro w'_ hs_; (repeat obtain ⟨_, hs_⟩ := hs_); go_simp; with_reducible rfl)); rotate_left; (focus (simp only [Act.put, List.setIfInBounds_toArray, List.set_cons_zero, List.set_cons_succ]; rfl)))
                  refine one_ (i := 10) (N := some 73) #[true, true, true, true, true, true, true, true, true, true, true, false] rfl rfl (by kernel_rfl) (by decide) (fun K hK => ?_)
                  refine goes_ Tryd.func33 (by kernel_rfl) rfl #[.agg #[.int .i64 ka.f0, .slice B1 ka.f1.length b1, .slice B2 ka.f2.length b2, .slice B3 ka.f3.length b3], .agg #[.int .i64 kb.f0, .slice F1 kb.f1.length f1, .slice F2 kb.f2.length f2, .slice F3 kb.f3.length f3]] (by rfl) rfl rfl (by (try simp only [List.map_toArray, List.map_cons, List.map_nil]); first | done | rfl) ?_
                  have hbw := below_step HB.out HWd.out
                  refine (IH.out _ _ ka kb Wd (HIA.out.below hbw) (HIB.out.below hbw) HPA.out.1 (by have := HN.out; omega) HPA.out.2).mono ?_
                  rintro e X1 ⟨rfl, hb1⟩
                  have hw1 := below_step HWd.out hb1
                  refine ⟨_, rfl, hK.out _ _ ⟨cell_below hw1 Z3.out, cell_below hw1 Y3.out, cell_below hw1 U0.out, cell_below hw1 U1.out, cell_below hw1 U2.out, cell_below hw1 U3.out, cell_below hw1 V0.out, cell_below hw1 V1.out, cell_below hw1 V2.out, cell_below hw1 V3.out, trivial⟩ (fun hHeld2 => ?_)⟩
                  clear hK K
                  (refine norm_ (a' := ?_) ?_ ?_; rotate_left; focus (show Act.put _ (some 73) _ = _; simp only [Act.put, List.setIfInBounds_toArray, List.set_cons_zero, List.set_cons_succ]; rfl))
                  cases hq : eqG ka kb with
                  | true =>
                    (refine pure_ (i := 11) (N := some 74) (v := ?_) (a' := ?_) #[true, true, true, true, true, true, true, true, true, true, true, true] rfl rfl (by kernel_rfl) (fun _ _ _ h => h) (Or.inl ⟨by rfl, ?_⟩) ?_ ?_; rotate_left; (focus (intro w'_; go_simp; with_reducible rfl)); rotate_left; (focus (simp only [Act.put, List.setIfInBounds_toArray, List.set_cons_zero, List.set_cons_succ]; rfl)))
                    refine done_ (by kernel_rfl) ?_
                    have HT2 := Aside0.mk (show a.f3.take (j + 1) = b.f3.take (j + 1) by rw [HTa.out, HTb.out, HT.out, (eqG_iff _ _).1 hq])
                    have HW1 := Aside0.mk hw1
                    clear hw1 hb1 hbw hHeld hHeld2 hq
                    go_wp2_with fail
                    go_roundg kq
                    case measure => omega
                    case rel => exact ⟨j + 1, by omega, by go_num, HT2, HW1⟩
                  | false =>
                    (refine pure_ (i := 11) (N := some 74) (v := ?_) (a' := ?_) #[true, true, true, true, true, true, true, true, true, true, true, true] rfl rfl (by kernel_rfl) (fun _ _ _ h => h) (Or.inl ⟨by rfl, ?_⟩) ?_ ?_; rotate_left; (focus (intro w'_; go_simp; with_reducible rfl)); rotate_left; (focus (simp only [Act.put, List.setIfInBounds_toArray, List.set_cons_zero, List.set_cons_succ]; rfl)))
                    refine done_ (by kernel_rfl) ?_
                    have HE := Aside0.mk (show a ≠ b from by
                      intro hab
                      have h := HTa.out.symm.trans ((by rw [hab] : a.f3.take (j + 1) = b.f3.take (j + 1)).trans HTb.out)
                      have h2 := List.append_inj_right' h rfl
                      injection h2 with h2
                      rw [eqG_true h2] at hq
                      cases hq)
                    have HW1 := Aside0.mk hw1
                    clear hw1 hb1 hbw hHeld hHeld2 hq
                    go_wp2_with fail
                    go_ret
                    exact ⟨ret_b (eqG_false HE.out).symm, below_step HB.out HW1.out⟩
            | succ kq =>
              have hlt : j < a.f2.length := by omega
              have hltb : j < b.f2.length := by have := Q2.out; omega
              obtain ⟨a2, A0, c0, ea, hx, hl, hc⟩ := at_L2 H2.out j (by omega) (by omega)
              obtain ⟨a4, B0, b0, eb, hy, hm, hd⟩ := at_L2 K2.out j (by omega) (by omega)
              subst ea eb
              rw [rd_L2_at _ _ hlt, Int.toNat_natCast] at hx
              rw [rd_L2_at _ _ hlt] at hc
              rw [rd_L2_at _ _ hltb, Int.toNat_natCast] at hy
              rw [rd_L2_at _ _ hltb] at hd
              have hlen : (a.f2[j]).length ≤ 1073741824 := by
                have h1 := upTo_le a.f2 (j + 1)
                rw [upTo_succ a.f2 j hlt] at h1
                have := HBQ.out.1
                have := HBQ.out.2.1
                have := HN.out
                omega
              have HCR := Aside0.mk (fun W (hb : Below w.heap.size w W) => sameLine_calls A0 B0 c0 b0 a.f2[j] b.f2[j] W (Kd.C_below hc hb) (Kd.C_below hd hb) hlen)
              have hx' := cell_below HB.out hx
              have hy' := cell_below HB.out hy
              have i0 : (0 : Int) ≤ (j : Int) := by omega
              have hj1 : (j : Int) < (a.f2.length : Int) := by omega
              have hj2 : (j : Int) < (b.f2.length : Int) := by have := Q2.out; omega
              obtain ⟨LA, hLA⟩ : ∃ k, k = a.f2[j] := ⟨_, rfl⟩
              obtain ⟨LB, hLB⟩ : ∃ k, k = b.f2[j] := ⟨_, rfl⟩
              rw [← hLA, ← hLB] at HCR
              rw [← hLA] at hx'
              rw [← hLB] at hy'
              have HTa := Aside0.mk (show a.f2.take (j + 1) = a.f2.take j ++ [LA] by rw [List.take_succ_eq_append_getElem hlt, hLA])
              have HTb := Aside0.mk (show b.f2.take (j + 1) = b.f2.take j ++ [LB] by rw [List.take_succ_eq_append_getElem hltb, hLB])
              clear hx hy hc hd hl hm hLA hLB hlen
              cases hq : eqL LA LB with
              | true =>
                rw [hq] at HCR
                have HQ := Aside0.mk ((eqL_iff _ _).1 hq)
                clear hq
                go_wp2_with fail
                go_quiet ((refine (HCR.out _ (by repeat (first | exact HB.out | apply pw_below_drewN))).mono ?_; rintro e w' ⟨rfl, nd, rfl⟩; exact ⟨rfl, _, (World.drewN_drewN _ _ _).trans (congrArg W0.drewN (Nat.add_assoc _ _ _))⟩))
                go_wp2_with fail
                go_roundg kq
                case measure => omega
                case rel => exact ⟨j + 1, by omega, by go_num, ⟨by rw [HTa.out, HTb.out, HT.out, HQ.out]⟩, _, rfl⟩
              | false =>
                rw [hq] at HCR
                have HE := Aside0.mk (show a ≠ b from by
                  rintro rfl
                  have h := HTa.out.symm.trans HTb.out
                  have h2 := List.append_inj_right' h rfl
                  injection h2 with h2
                  rw [eqL_true h2] at hq
                  cases hq)
                clear hq
                go_wp2_with fail
                go_quiet ((refine (HCR.out _ (by repeat (first | exact HB.out | apply pw_below_drewN))).mono ?_; rintro e w' ⟨rfl, nd, rfl⟩; exact ⟨rfl, _, (World.drewN_drewN _ _ _).trans (congrArg W0.drewN (Nat.add_assoc _ _ _))⟩))
                go_wp2_with fail
                go_ret
                exact ⟨ret_b (eqG_false HE.out).symm, by repeat (first | exact HB.out | apply pw_below_drewN)⟩
        · have HE := Aside0.mk (show a ≠ b from fun e => q3 (by rw [e]))
          have t0 : (a.f0 == b.f0) = true := beq_iff_eq.mpr q0
          have t0' : (a.f0 != b.f0) = false := bne_eq_false_iff_eq.mpr q0
          have t2 : ((a.f2.length : Int) == (b.f2.length : Int)) = true := beq_iff_eq.mpr (by omega)
          have t2' : ((a.f2.length : Int) != (b.f2.length : Int)) = false := bne_eq_false_iff_eq.mpr (by omega)
          have t3 : ((a.f3.length : Int) == (b.f3.length : Int)) = false := beq_eq_false_iff_ne.mpr (by omega)
          have t3' : ((a.f3.length : Int) != (b.f3.length : Int)) = true := bne_iff_ne.mpr (by omega)
          have Q1 := Aside0.mk q1
          clear q0 q1 q2 q3
          go_wp2_with fail
          obtain ⟨ga, hga⟩ : ∃ x, x = w.heap.size := ⟨_, rfl⟩
          obtain ⟨gb, hgb⟩ : ∃ x, x = w.heap.size + 1 := ⟨_, rfl⟩
          obtain ⟨W0, hW0⟩ : ∃ x, x = ((w.alloc (.cells #[.int .i64 a.f0, .slice A1 a.f1.length c1, .slice A2 a.f2.length c2, .slice A3 a.f3.length c3] 28)).alloc (.cells #[.int .i64 b.f0, .slice D1 b.f1.length d1, .slice D2 b.f2.length d2, .slice D3 b.f3.length d3] 28)) := ⟨_, rfl⟩
          rw [← hW0, ← hgb, ← hga]
          have BA := Aside0.mk (show W0.heap[ga]? = some (.cells #[.int .i64 a.f0, .slice A1 a.f1.length c1, .slice A2 a.f2.length c2, .slice A3 a.f3.length c3] 28 (0, 0)) by rw [hW0, hga]; exact blk_alloc (World.alloc_heap_new _ _) _)
          have BB := Aside0.mk (show W0.heap[gb]? = some (.cells #[.int .i64 b.f0, .slice D1 b.f1.length d1, .slice D2 b.f2.length d2, .slice D3 b.f3.length d3] 28 (0, 0)) by
            rw [hW0, hgb]
            have h := World.alloc_heap_new (w.alloc (.cells #[.int .i64 a.f0, .slice A1 a.f1.length c1, .slice A2 a.f2.length c2, .slice A3 a.f3.length c3] 28)) (.cells #[.int .i64 b.f0, .slice D1 b.f1.length d1, .slice D2 b.f2.length d2, .slice D3 b.f3.length d3] 28)
            simpa using h)
          have HB := Aside0.mk (show Below w.heap.size w W0 by rw [hW0]; exact below_alloc (below_alloc (Below.refl _ _) _) _)
          have HGA := Aside0.mk hga
          clear hW0 hga hgb HB0
          have z0 : W0.cell? ⟨ga, 0, none⟩ = some (.int .i64 a.f0) := (blk_cell BA.out 0).trans rfl
          have z1 : W0.cell? ⟨ga, 1, none⟩ = some (.slice A1 a.f1.length c1) := (blk_cell BA.out 1).trans rfl
          have z2 : W0.cell? ⟨ga, 2, none⟩ = some (.slice A2 a.f2.length c2) := (blk_cell BA.out 2).trans rfl
          have z3 : W0.cell? ⟨ga, 3, none⟩ = some (.slice A3 a.f3.length c3) := (blk_cell BA.out 3).trans rfl
          have y0 : W0.cell? ⟨gb, 0, none⟩ = some (.int .i64 b.f0) := (blk_cell BB.out 0).trans rfl
          have y1 : W0.cell? ⟨gb, 1, none⟩ = some (.slice D1 b.f1.length d1) := (blk_cell BB.out 1).trans rfl
          have y2 : W0.cell? ⟨gb, 2, none⟩ = some (.slice D2 b.f2.length d2) := (blk_cell BB.out 2).trans rfl
          have y3 : W0.cell? ⟨gb, 3, none⟩ = some (.slice D3 b.f3.length d3) := (blk_cell BB.out 3).trans rfl
          refine (sameLine_calls A1 D1 c1 d1 a.f1 b.f1 W0 (Kd.C_below H1.out HB.out) (Kd.C_below K1.out HB.out) hb1).mono ?_
          rintro e w' ⟨rfl, nd, rfl⟩
          rw [eqL_true Q1.out]
          go_wp2_with fail
          go_ret
          exact ⟨ret_b (eqG_false HE.out).symm, pw_below_drewN HB.out _⟩
      · have HE := Aside0.mk (show a ≠ b from fun e => q2 (by rw [e]))
        have t0 : (a.f0 == b.f0) = true := beq_iff_eq.mpr q0
        have t0' : (a.f0 != b.f0) = false := bne_eq_false_iff_eq.mpr q0
        have t2 : ((a.f2.length : Int) == (b.f2.length : Int)) = false := beq_eq_false_iff_ne.mpr (by omega)
        have t2' : ((a.f2.length : Int) != (b.f2.length : Int)) = true := bne_iff_ne.mpr (by omega)
        have Q1 := Aside0.mk q1
        clear q0 q1 q2
        go_wp2_with fail
        obtain ⟨ga, hga⟩ : ∃ x, x = w.heap.size := ⟨_, rfl⟩
        obtain ⟨gb, hgb⟩ : ∃ x, x = w.heap.size + 1 := ⟨_, rfl⟩
        obtain ⟨W0, hW0⟩ : ∃ x, x = ((w.alloc (.cells #[.int .i64 a.f0, .slice A1 a.f1.length c1, .slice A2 a.f2.length c2, .slice A3 a.f3.length c3] 28)).alloc (.cells #[.int .i64 b.f0, .slice D1 b.f1.length d1, .slice D2 b.f2.length d2, .slice D3 b.f3.length d3] 28)) := ⟨_, rfl⟩
        rw [← hW0, ← hgb, ← hga]
        have BA := Aside0.mk (show W0.heap[ga]? = some (.cells #[.int .i64 a.f0, .slice A1 a.f1.length c1, .slice A2 a.f2.length c2, .slice A3 a.f3.length c3] 28 (0, 0)) by rw [hW0, hga]; exact blk_alloc (World.alloc_heap_new _ _) _)
        have BB := Aside0.mk (show W0.heap[gb]? = some (.cells #[.int .i64 b.f0, .slice D1 b.f1.length d1, .slice D2 b.f2.length d2, .slice D3 b.f3.length d3] 28 (0, 0)) by
          rw [hW0, hgb]
          have h := World.alloc_heap_new (w.alloc (.cells #[.int .i64 a.f0, .slice A1 a.f1.length c1, .slice A2 a.f2.length c2, .slice A3 a.f3.length c3] 28)) (.cells #[.int .i64 b.f0, .slice D1 b.f1.length d1, .slice D2 b.f2.length d2, .slice D3 b.f3.length d3] 28)
          simpa using h)
        have HB := Aside0.mk (show Below w.heap.size w W0 by rw [hW0]; exact below_alloc (below_alloc (Below.refl _ _) _) _)
        have HGA := Aside0.mk hga
        clear hW0 hga hgb HB0
        have z0 : W0.cell? ⟨ga, 0, none⟩ = some (.int .i64 a.f0) := (blk_cell BA.out 0).trans rfl
        have z1 : W0.cell? ⟨ga, 1, none⟩ = some (.slice A1 a.f1.length c1) := (blk_cell BA.out 1).trans rfl
        have z2 : W0.cell? ⟨ga, 2, none⟩ = some (.slice A2 a.f2.length c2) := (blk_cell BA.out 2).trans rfl
        have z3 : W0.cell? ⟨ga, 3, none⟩ = some (.slice A3 a.f3.length c3) := (blk_cell BA.out 3).trans rfl
        have y0 : W0.cell? ⟨gb, 0, none⟩ = some (.int .i64 b.f0) := (blk_cell BB.out 0).trans rfl
        have y1 : W0.cell? ⟨gb, 1, none⟩ = some (.slice D1 b.f1.length d1) := (blk_cell BB.out 1).trans rfl
        have y2 : W0.cell? ⟨gb, 2, none⟩ = some (.slice D2 b.f2.length d2) := (blk_cell BB.out 2).trans rfl
        have y3 : W0.cell? ⟨gb, 3, none⟩ = some (.slice D3 b.f3.length d3) := (blk_cell BB.out 3).trans rfl
        refine (sameLine_calls A1 D1 c1 d1 a.f1 b.f1 W0 (Kd.C_below H1.out HB.out) (Kd.C_below K1.out HB.out) hb1).mono ?_
        rintro e w' ⟨rfl, nd, rfl⟩
        rw [eqL_true Q1.out]
        go_wp2_with fail
        go_ret
        exact ⟨ret_b (eqG_false HE.out).symm, pw_below_drewN HB.out _⟩
    · have HE := Aside0.mk (show a ≠ b from fun e => q1 (by rw [e]))
      have t0 : (a.f0 == b.f0) = true := beq_iff_eq.mpr q0
      have t0' : (a.f0 != b.f0) = false := bne_eq_false_iff_eq.mpr q0
      have Q1 := Aside0.mk q1
      clear q0 q1
      go_wp2_with fail
      obtain ⟨ga, hga⟩ : ∃ x, x = w.heap.size := ⟨_, rfl⟩
      obtain ⟨gb, hgb⟩ : ∃ x, x = w.heap.size + 1 := ⟨_, rfl⟩
      obtain ⟨W0, hW0⟩ : ∃ x, x = ((w.alloc (.cells #[.int .i64 a.f0, .slice A1 a.f1.length c1, .slice A2 a.f2.length c2, .slice A3 a.f3.length c3] 28)).alloc (.cells #[.int .i64 b.f0, .slice D1 b.f1.length d1, .slice D2 b.f2.length d2, .slice D3 b.f3.length d3] 28)) := ⟨_, rfl⟩
      rw [← hW0, ← hgb, ← hga]
      have BA := Aside0.mk (show W0.heap[ga]? = some (.cells #[.int .i64 a.f0, .slice A1 a.f1.length c1, .slice A2 a.f2.length c2, .slice A3 a.f3.length c3] 28 (0, 0)) by rw [hW0, hga]; exact blk_alloc (World.alloc_heap_new _ _) _)
      have BB := Aside0.mk (show W0.heap[gb]? = some (.cells #[.int .i64 b.f0, .slice D1 b.f1.length d1, .slice D2 b.f2.length d2, .slice D3 b.f3.length d3] 28 (0, 0)) by
        rw [hW0, hgb]
        have h := World.alloc_heap_new (w.alloc (.cells #[.int .i64 a.f0, .slice A1 a.f1.length c1, .slice A2 a.f2.length c2, .slice A3 a.f3.length c3] 28)) (.cells #[.int .i64 b.f0, .slice D1 b.f1.length d1, .slice D2 b.f2.length d2, .slice D3 b.f3.length d3] 28)
        simpa using h)
      have HB := Aside0.mk (show Below w.heap.size w W0 by rw [hW0]; exact below_alloc (below_alloc (Below.refl _ _) _) _)
      have HGA := Aside0.mk hga
      clear hW0 hga hgb HB0
      have z0 : W0.cell? ⟨ga, 0, none⟩ = some (.int .i64 a.f0) := (blk_cell BA.out 0).trans rfl
      have z1 : W0.cell? ⟨ga, 1, none⟩ = some (.slice A1 a.f1.length c1) := (blk_cell BA.out 1).trans rfl
      have z2 : W0.cell? ⟨ga, 2, none⟩ = some (.slice A2 a.f2.length c2) := (blk_cell BA.out 2).trans rfl
      have z3 : W0.cell? ⟨ga, 3, none⟩ = some (.slice A3 a.f3.length c3) := (blk_cell BA.out 3).trans rfl
      have y0 : W0.cell? ⟨gb, 0, none⟩ = some (.int .i64 b.f0) := (blk_cell BB.out 0).trans rfl
      have y1 : W0.cell? ⟨gb, 1, none⟩ = some (.slice D1 b.f1.length d1) := (blk_cell BB.out 1).trans rfl
      have y2 : W0.cell? ⟨gb, 2, none⟩ = some (.slice D2 b.f2.length d2) := (blk_cell BB.out 2).trans rfl
      have y3 : W0.cell? ⟨gb, 3, none⟩ = some (.slice D3 b.f3.length d3) := (blk_cell BB.out 3).trans rfl
      refine (sameLine_calls A1 D1 c1 d1 a.f1 b.f1 W0 (Kd.C_below H1.out HB.out) (Kd.C_below K1.out HB.out) hb1).mono ?_
      rintro e w' ⟨rfl, nd, rfl⟩
      rw [eqL_false Q1.out]
      go_wp2_with fail
      go_ret
      exact ⟨ret_b (eqG_false HE.out).symm, pw_below_drewN HB.out _⟩
  · have HE := Aside0.mk (show a ≠ b from fun e => q0 (by rw [e]))
    have t0 : (a.f0 == b.f0) = false := beq_eq_false_iff_ne.mpr q0
    have t0' : (a.f0 != b.f0) = true := bne_iff_ne.mpr q0
    clear q0
    go_wp2_with fail
    obtain ⟨ga, hga⟩ : ∃ x, x = w.heap.size := ⟨_, rfl⟩
    obtain ⟨gb, hgb⟩ : ∃ x, x = w.heap.size + 1 := ⟨_, rfl⟩
    obtain ⟨W0, hW0⟩ : ∃ x, x = ((w.alloc (.cells #[.int .i64 a.f0, .slice A1 a.f1.length c1, .slice A2 a.f2.length c2, .slice A3 a.f3.length c3] 28)).alloc (.cells #[.int .i64 b.f0, .slice D1 b.f1.length d1, .slice D2 b.f2.length d2, .slice D3 b.f3.length d3] 28)) := ⟨_, rfl⟩
    rw [← hW0, ← hgb, ← hga]
    have BA := Aside0.mk (show W0.heap[ga]? = some (.cells #[.int .i64 a.f0, .slice A1 a.f1.length c1, .slice A2 a.f2.length c2, .slice A3 a.f3.length c3] 28 (0, 0)) by rw [hW0, hga]; exact blk_alloc (World.alloc_heap_new _ _) _)
    have BB := Aside0.mk (show W0.heap[gb]? = some (.cells #[.int .i64 b.f0, .slice D1 b.f1.length d1, .slice D2 b.f2.length d2, .slice D3 b.f3.length d3] 28 (0, 0)) by
      rw [hW0, hgb]
      have h := World.alloc_heap_new (w.alloc (.cells #[.int .i64 a.f0, .slice A1 a.f1.length c1, .slice A2 a.f2.length c2, .slice A3 a.f3.length c3] 28)) (.cells #[.int .i64 b.f0, .slice D1 b.f1.length d1, .slice D2 b.f2.length d2, .slice D3 b.f3.length d3] 28)
      simpa using h)
    have HB := Aside0.mk (show Below w.heap.size w W0 by rw [hW0]; exact below_alloc (below_alloc (Below.refl _ _) _) _)
    have HGA := Aside0.mk hga
    clear hW0 hga hgb HB0
    have z0 : W0.cell? ⟨ga, 0, none⟩ = some (.int .i64 a.f0) := (blk_cell BA.out 0).trans rfl
    have z1 : W0.cell? ⟨ga, 1, none⟩ = some (.slice A1 a.f1.length c1) := (blk_cell BA.out 1).trans rfl
    have z2 : W0.cell? ⟨ga, 2, none⟩ = some (.slice A2 a.f2.length c2) := (blk_cell BA.out 2).trans rfl
    have z3 : W0.cell? ⟨ga, 3, none⟩ = some (.slice A3 a.f3.length c3) := (blk_cell BA.out 3).trans rfl
    have y0 : W0.cell? ⟨gb, 0, none⟩ = some (.int .i64 b.f0) := (blk_cell BB.out 0).trans rfl
    have y1 : W0.cell? ⟨gb, 1, none⟩ = some (.slice D1 b.f1.length d1) := (blk_cell BB.out 1).trans rfl
    have y2 : W0.cell? ⟨gb, 2, none⟩ = some (.slice D2 b.f2.length d2) := (blk_cell BB.out 2).trans rfl
    have y3 : W0.cell? ⟨gb, 3, none⟩ = some (.slice D3 b.f3.length d3) := (blk_cell BB.out 3).trans rfl
    go_ret
    exact ⟨ret_b (eqG_false HE.out).symm, by rw [HGA.out]; exact HB.out⟩
end Go.Proofs.YtiiolhnpnlmkjaaDoor.Tree
namespace Go.Proofs.YtiiolhnpnlmkjaaDoor.Tree
open Go.RowKit Go.Proofs.YtiiolhnpnlmkjaaDoor.PWkbPrints Go.Proofs.YtiiolhnpnlmkjaaDoorW.PrintWords Go.Proofs.YtiiolhnpnlmkjaaDoorW.PrintLast Go.Proofs.YtiiolhnpnlmkjaaDoorW.PrintMore
set_option linter.unusedVariables false
set_option linter.unusedSimpArgs false
attribute [local go_sem] Oper.semAt_some max2_int max_two min2_int min_two
def gA : Ge := ⟨1, [⟨4607182418800017408, 4611686018427387904⟩], [], []⟩
def bA : List Int := [1, 1, 0, 0, 0, 0, 0, 0, 0, 0, 0, 240, 63, 0, 0, 0, 0, 0, 0, 0, 64]
def sA : ByteArray := ⟨#[48, 49, 48, 49, 48, 48, 48, 48, 48, 48, 48, 48, 48, 48, 48, 48, 48, 48, 48, 48, 48, 48, 102, 48, 51, 102, 48, 48, 48, 48, 48, 48, 48, 48, 48, 48, 48, 48, 48, 48, 52, 48]⟩
theorem gA_check : checkR gA = none := by kernel_rfl
theorem gA_bytes : geoB [true] gA 0 = bA := by kernel_rfl
theorem gA_parsed : parsedR bA 1 21 = .ok (gA, [true]) := by kernel_rfl
theorem gA_hex : PMk.octet_Hex.f 30 bA = some sA := by kernel_rfl
set_option maxRecDepth 100000 in
set_option maxHeartbeats 16000000 in
theorem alive_calls (w : World) : Calls Tryd.prog 27 #[] w fun e w' => e = .returned (.bool true) ∧ Below w.heap.size w w' := by
  have hu := Tryd.underlying28
  go_enter Tryd.func27, Tryd.ntmps27
  go_upto_region 2 with fail
  obtain ⟨gl, hgl⟩ : ∃ y, y = w.heap.size := ⟨_, rfl⟩
  obtain ⟨W1, hW1⟩ : ∃ y, y = (w.alloc (.cells #[.int .u64 4607182418800017408, .int .u64 4611686018427387904] 82)).alloc (.cells #[.int .i64 1, .slice (some ⟨w.heap.size, 0, none⟩) 1 1, .slice none 0 0, .slice none 0 0] 28) := ⟨_, rfl⟩
  rw [← hW1, ← hgl]
  have hb1 : Below w.heap.size w W1 := by rw [hW1]; exact below_alloc (below_alloc (Below.refl _ _) _) _
  have kl : W1.heap[gl]? = some (.cells #[.int .u64 4607182418800017408, .int .u64 4611686018427387904] 82 (0, 0)) := by rw [hW1, hgl]; exact blk_alloc (World.alloc_heap_new _ _) _
  have kg : W1.heap[gl + 1]? = some (.cells #[.int .i64 1, .slice (some ⟨gl, 0, none⟩) 1 1, .slice none 0 0, .slice none 0 0] 28 (0, 0)) := by
    rw [hW1, hgl]
    have h9 := World.alloc_heap_new (w.alloc (.cells #[.int .u64 4607182418800017408, .int .u64 4611686018427387904] 82)) (.cells #[.int .i64 1, .slice (some ⟨w.heap.size, 0, none⟩) 1 1, .slice none 0 0, .slice none 0 0] 28)
    simpa using h9
  have hIG : IsG W1 (.agg #[.int .i64 1, .slice (some ⟨gl, 0, none⟩) 1 1, .slice none 0 0, .slice none 0 0]) gA := ⟨_, 1, none, 0, none, 0, rfl, Nat.le_refl _, lit_pt (q := ⟨4607182418800017408, 4611686018427387904⟩) kl, Nat.le_refl _, Kd.C_nil _ _, Nat.le_refl _, Kd.C_nil _ _⟩
  have H1 := Aside0.mk (And.intro (And.intro hb1 kg) hIG)
  have z0_ : W1.cell? ⟨gl + 1, 0, none⟩ = some (.int .i64 1) := (blk_cell kg 0).trans rfl
  have z1_ : W1.cell? ⟨gl + 1, 1, none⟩ = some (.slice (some ⟨gl, 0, none⟩) 1 1) := (blk_cell kg 1).trans rfl
  have z2_ : W1.cell? ⟨gl + 1, 2, none⟩ = some (.slice none 0 0) := (blk_cell kg 2).trans rfl
  have z3_ : W1.cell? ⟨gl + 1, 3, none⟩ = some (.slice none 0 0) := (blk_cell kg 3).trans rfl
  clear hW1 hgl hb1 kl kg hIG
  go_wp2_with fail
  refine (print_calls _ gA true W1 H1.out.2 (by decide)).mono ?_
  rintro e W2 ⟨u, er, rfl, hR, hE, hb2⟩
  rw [mixedB, if_pos gA_check, gA_bytes] at hR
  rw [gA_check] at hE
  obtain rfl : er = .nilIface := hE
  obtain ⟨A, c, e2⟩ := Kd.R_slice hR
  have hlA : bA.length = 21 := rfl
  rw [hlA] at e2
  subst e2
  have H2 := Aside0.mk (And.intro (And.intro (below_step H1.out.1.1 hb2) (blk_below H1.out.1.2 hb2)) (And.intro (H1.out.2.below hb2) (Kd.R_reads' hR).2))
  clear z0_ z1_ z2_ z3_ hb2 hR H1
  go_wp2_with fail
  refine (parse_calls A c bA 1 21 W2 H2.out.2.2.2 H2.out.2.2.1 (by decide)).mono ?_
  rintro e W3 ⟨uh, eh, rfl, hb3, -, hO⟩
  obtain ⟨rfl, hcp⟩ := hO _ gA_parsed
  have hig := hcp.isG
  have H3 := Aside0.mk (And.intro (And.intro (below_step H2.out.1.1 hb3) (blk_below H2.out.1.2 hb3)) (And.intro (And.intro (H2.out.2.1.below hb3) (And.intro H2.out.2.2.1 (Kd.C_below H2.out.2.2.2 hb3))) hig))
  obtain ⟨k, A1, n1, c1, A2, n2, c2, A3, n3, c3, e3⟩ := hcp.agg
  subst e3
  clear hb3 hO hcp H2 hig
  go_upto_region 4 with fail
  obtain ⟨W4, hW4⟩ : ∃ y, y = W3.alloc (.cells #[.int .i64 k, .slice A1 n1 c1, .slice A2 n2 c2, .slice A3 n3 c3] 28) := ⟨_, rfl⟩
  obtain ⟨gh, hgh⟩ : ∃ y, y = W3.heap.size := ⟨_, rfl⟩
  rw [← hW4, ← hgh]
  have hb4 : Below W3.heap.size W3 W4 := by rw [hW4]; exact below_alloc (Below.refl _ _) _
  have kh : W4.heap[gh]? = some (.cells #[.int .i64 k, .slice A1 n1 c1, .slice A2 n2 c2, .slice A3 n3 c3] 28 (0, 0)) := by rw [hW4, hgh]; exact World.alloc_heap_new _ _
  have kg := blk_below H3.out.1.2 hb4
  have H4 := Aside0.mk (And.intro (And.intro (below_step H3.out.1.1 hb4) (And.intro kg kh)) (And.intro (And.intro (H3.out.2.1.1.below hb4) (And.intro H3.out.2.1.2.1 (Kd.C_below H3.out.2.1.2.2 hb4))) (H3.out.2.2.below hb4)))
  clear hW4 hgh hb4 kg kh H3
  go_wp2_with fail
  refine (PMk.octet_Hex.calls 30 A c bA sA W4 H4.out.2.1.2.2 H4.out.2.1.2.1 gA_hex).mono ?_
  rintro e W5 ⟨rfl, hb5⟩
  have H5 := Aside0.mk (And.intro (below_step H4.out.1.1 hb5) (And.intro (H4.out.2.1.1.below hb5) (H4.out.2.2.below hb5)))
  have kg := blk_below H4.out.1.2.1 hb5
  have kh := blk_below H4.out.1.2.2 hb5
  have z0_ : W5.cell? ⟨gl + 1, 0, none⟩ = some (.int .i64 1) := (blk_cell kg 0).trans rfl
  have z1_ : W5.cell? ⟨gl + 1, 1, none⟩ = some (.slice (some ⟨gl, 0, none⟩) 1 1) := (blk_cell kg 1).trans rfl
  have z2_ : W5.cell? ⟨gl + 1, 2, none⟩ = some (.slice none 0 0) := (blk_cell kg 2).trans rfl
  have z3_ : W5.cell? ⟨gl + 1, 3, none⟩ = some (.slice none 0 0) := (blk_cell kg 3).trans rfl
  have y0_ : W5.cell? ⟨gh, 0, none⟩ = some (.int .i64 k) := (blk_cell kh 0).trans rfl
  have y1_ : W5.cell? ⟨gh, 1, none⟩ = some (.slice A1 n1 c1) := (blk_cell kh 1).trans rfl
  have y2_ : W5.cell? ⟨gh, 2, none⟩ = some (.slice A2 n2 c2) := (blk_cell kh 2).trans rfl
  have y3_ : W5.cell? ⟨gh, 3, none⟩ = some (.slice A3 n3 c3) := (blk_cell kh 3).trans rfl
  have hstr : (sA.toList == [48, 49, 48, 49, 48, 48, 48, 48, 48, 48, 48, 48, 48, 48, 48, 48, 48, 48, 48, 48, 48, 48, 102, 48, 51, 102, 48, 48, 48, 48, 48, 48, 48, 48, 48, 48, 48, 48, 48, 48, 52, 48]) = true := by kernel_rfl
  clear hb5 H4 kg kh
  go_wp2_with fail
  refine (equal_calls gA.bulk _ _ gA gA W5 H5.out.2.1 H5.out.2.2 (Nat.le_refl _) (by decide) (by decide)).mono ?_
  rintro e W6 ⟨rfl, hb6⟩
  rw [eqG_true rfl]
  have HB6 := Aside0.mk (below_step H5.out.1 hb6)
  clear hb6
  go_wp2_with fail
  go_ret
  exact ⟨rfl, HB6.out⟩
end Go.Proofs.YtiiolhnpnlmkjaaDoor.Tree
namespace Go.Proofs.YtiiolhnpnlmkjaaDoor.Tree
open Go.RowKit Go.Proofs.YtiiolhnpnlmkjaaDoor.PWkbPrints Go.Proofs.YtiiolhnpnlmkjaaDoorW.PrintWords Go.Proofs.YtiiolhnpnlmkjaaDoorW.PrintLast Go.Proofs.YtiiolhnpnlmkjaaDoorW.PrintMore Go.Proofs.YtiiolhnpnlmkjaaDoor.PMk
set_option linter.unusedVariables false
set_option linter.unusedSimpArgs false
attribute [local go_sem] Oper.semAt_some max2_int max_two min2_int min_two
theorem code_ne {p c : Int} (h : c ≠ 0) : codeOf (some (p, c)) ≠ 0 := h
theorem eqG_self (g : Ge) : eqG g g = true := eqG_true rfl
theorem zero_no (w : World) : Calls Tryd.prog 29 #[.agg #[.int .i64 0, .slice none 0 0, .slice none 0 0, .slice none 0 0]] w fun e w' => e = .returned (.bool true) ∧ Below w.heap.size w w' :=
  plumblaw17_zero.calls 0 none 0 [] none 0 [] none 0 [] true w (Kd.C_nil _ _) (Nat.le_refl _) (Kd.C_nil _ _) (Nat.le_refl _) (Kd.C_nil _ _) (Nat.le_refl _) (by kernel_rfl)
end Go.Proofs.YtiiolhnpnlmkjaaDoor.Tree
namespace Go.Proofs.YtiiolhnpnlmkjaaDoor.Tree
open Go.RowKit Go.Proofs.YtiiolhnpnlmkjaaDoor.PWkbPrints Go.Proofs.YtiiolhnpnlmkjaaDoorW.PrintWords Go.Proofs.YtiiolhnpnlmkjaaDoorW.PrintLast Go.Proofs.YtiiolhnpnlmkjaaDoorW.PrintMore Go.Proofs.YtiiolhnpnlmkjaaDoor.PMk
set_option linter.unusedVariables false
set_option linter.unusedSimpArgs false
attribute [local go_sem] Oper.semAt_some max2_int max_two min2_int min_two
theorem info5b : (Tryd.prog.info? 5).map (fun i => (i.zero, i.size, i.bytes)) = some (some (.int .u8 0), 1, 1) := by kernel_rfl
set_option maxRecDepth 100000 in
set_option maxHeartbeats 32000000 in
theorem cuts_calls (A : Option Addr) (c : Nat) (l : List Wn) (a1 : Int) (A2 : Option Addr) (c2 : Nat) (X : List Int) (W : World) (hC : Kd.C kWn W A l.length l) (hl : l.length ≤ 1048576) (hxl : ∀ x ∈ l, x.f2.length ≤ 1048576) (hxy : Xy l) (hCX : kB.C W A2 X.length X) (hcX : X.length ≤ c2) (hh : Handle W) :
    Calls Tryd.prog 6 #[.slice A l.length c, .int .i64 a1, .slice A2 X.length c2] W fun e W' => e = .returned (.bool true) ∧ Below W.heap.size W W' := by
  have hu := Tryd.underlying28
  have HT := Aside0.mk (treeM_ok hxy)
  obtain ⟨g, hg⟩ : ∃ y, y = treeM l := ⟨_, rfl⟩
  have HGE := Aside0.mk hg
  rw [← hg] at HT
  have HH := Aside0.mk hh
  have RX := Aside0.mk (And.intro hcX hCX)
  have HB := Aside0.mk (Below.refl W.heap.size W)
  have HC := Aside0.mk hC
  clear hh hg hCX hcX hC
  go_enter Tryd.func6, Tryd.ntmps6
  go_wp2_with fail
  refine (grown_calls A c l W HC.out hl hxl hxy).mono ?_
  rintro e W1 ⟨u, rfl, hcp, hb_⟩
  rw [← HGE.out] at hcp
  obtain ⟨G1, g1_, G2, g2_, G3, g3_, rfl, hig⟩ := hcp.isG
  have IG := Aside0.mk (show IsG W1 (.agg #[.int .i64 g.f0, .slice G1 g.f1.length g1_, .slice G2 g.f2.length g2_, .slice G3 g.f3.length g3_]) g from ⟨G1, g1_, G2, g2_, G3, g3_, rfl, hig⟩)
  clear hcp hig HC
  have n_ := Aside0.mk (below_step HB.out hb_)
  clear HB
  have HB := n_
  clear n_
  have n_ := Aside0.mk (Handle_below HH.out hb_)
  clear HH
  have HH := n_
  clear n_
  have n_ := Aside0.mk (And.intro RX.out.1 (Kd.C_below RX.out.2 hb_))
  clear RX
  have RX := n_
  clear n_
  clear hb_
  go_upto_region 2 with fail
  obtain ⟨gl, hgl_⟩ : ∃ x, x = W1.heap.size := ⟨_, rfl⟩
  obtain ⟨W2, hW2_⟩ : ∃ x, x = W1.alloc (.cells #[.int .i64 g.f0, .slice G1 g.f1.length g1_, .slice G2 g.f2.length g2_, .slice G3 g.f3.length g3_] 28) := ⟨_, rfl⟩
  rw [← hW2_, ← hgl_]
  have KG := Aside0.mk (show W2.heap[gl]? = some (.cells #[.int .i64 g.f0, .slice G1 g.f1.length g1_, .slice G2 g.f2.length g2_, .slice G3 g.f3.length g3_] 28 (0, 0)) by rw [hW2_, hgl_]; exact World.alloc_heap_new _ _)
  have hb_ : Below W1.heap.size W1 W2 := by rw [hW2_]; exact below_alloc (Below.refl _ _) _
  clear hW2_ hgl_
  have n_ := Aside0.mk (below_step HB.out hb_)
  clear HB
  have HB := n_
  clear n_
  have n_ := Aside0.mk (Handle_below HH.out hb_)
  clear HH
  have HH := n_
  clear n_
  have n_ := Aside0.mk (And.intro RX.out.1 (Kd.C_below RX.out.2 hb_))
  clear RX
  have RX := n_
  clear n_
  have n_ := Aside0.mk (IG.out.below hb_)
  clear IG
  have IG := n_
  clear n_
  clear hb_
  have zG0_ : W2.cell? ⟨gl, 0, none⟩ = some (.int .i64 g.f0) := (blk_cell KG.out 0).trans rfl
  have zG1_ : W2.cell? ⟨gl, 1, none⟩ = some (.slice G1 g.f1.length g1_) := (blk_cell KG.out 1).trans rfl
  have zG2_ : W2.cell? ⟨gl, 2, none⟩ = some (.slice G2 g.f2.length g2_) := (blk_cell KG.out 2).trans rfl
  have zG3_ : W2.cell? ⟨gl, 3, none⟩ = some (.slice G3 g.f3.length g3_) := (blk_cell KG.out 3).trans rfl
  go_wp2_with fail
  clear zG0_ zG1_ zG2_ zG3_
  refine (alive_calls W2).mono ?_
  rintro e W3 ⟨rfl, hb_⟩
  have n_ := Aside0.mk (below_step HB.out hb_)
  clear HB
  have HB := n_
  clear n_
  have n_ := Aside0.mk (Handle_below HH.out hb_)
  clear HH
  have HH := n_
  clear n_
  have n_ := Aside0.mk (And.intro RX.out.1 (Kd.C_below RX.out.2 hb_))
  clear RX
  have RX := n_
  clear n_
  have n_ := Aside0.mk (IG.out.below hb_)
  clear IG
  have IG := n_
  clear n_
  have n_ := Aside0.mk (blk_below KG.out hb_)
  clear KG
  have KG := n_
  clear n_
  clear hb_
  have zG0_ : W3.cell? ⟨gl, 0, none⟩ = some (.int .i64 g.f0) := (blk_cell KG.out 0).trans rfl
  have zG1_ : W3.cell? ⟨gl, 1, none⟩ = some (.slice G1 g.f1.length g1_) := (blk_cell KG.out 1).trans rfl
  have zG2_ : W3.cell? ⟨gl, 2, none⟩ = some (.slice G2 g.f2.length g2_) := (blk_cell KG.out 2).trans rfl
  have zG3_ : W3.cell? ⟨gl, 3, none⟩ = some (.slice G3 g.f3.length g3_) := (blk_cell KG.out 3).trans rfl
  go_wp2_with fail
  obtain ⟨b1, hb1_⟩ : ∃ z_, z_ = (a1.tmod 2 == 0) := ⟨_, rfl⟩
  obtain ⟨b2, hb2_⟩ : ∃ z_, z_ = (a1.tmod 3 == 0) := ⟨_, rfl⟩
  rw [← hb1_, ← hb2_]
  clear hb1_ hb2_
  obtain ⟨gb, hgb_⟩ : ∃ x, x = W3.heap.size := ⟨_, rfl⟩
  obtain ⟨W4, hW4_⟩ : ∃ x, x = W3.alloc (.cells #[.bool b1, .bool b2] 4) := ⟨_, rfl⟩
  rw [← hW4_, ← hgb_]
  have KB := Aside0.mk (show W4.heap[gb]? = some (.cells #[.bool b1, .bool b2] 4 (0, 0)) by rw [hW4_, hgb_]; exact World.alloc_heap_new _ _)
  have hb_ : Below W3.heap.size W3 W4 := by rw [hW4_]; exact below_alloc (Below.refl _ _) _
  clear hW4_ hgb_
  have n_ := Aside0.mk (below_step HB.out hb_)
  clear HB
  have HB := n_
  clear n_
  have n_ := Aside0.mk (Handle_below HH.out hb_)
  clear HH
  have HH := n_
  clear n_
  have n_ := Aside0.mk (And.intro RX.out.1 (Kd.C_below RX.out.2 hb_))
  clear RX
  have RX := n_
  clear n_
  have n_ := Aside0.mk (IG.out.below hb_)
  clear IG
  have IG := n_
  clear n_
  have n_ := Aside0.mk (blk_below KG.out hb_)
  clear KG
  have KG := n_
  clear n_
  clear hb_
  clear zG0_ zG1_ zG2_ zG3_
  refine (mixed_calls _ g (some ⟨gb, 0, none⟩) 2 [b1, b2] W4 IG.out (bool_blk2 KB.out (Nat.zero_le _)) (by have := HT.out.2.2.1; omega) (by simp)).mono ?_
  rintro e W5 ⟨u, er, rfl, hR, hE, hb_⟩
  rw [mixedB, if_pos HT.out.2.2.2] at hR
  rw [HT.out.2.2.2] at hE
  obtain rfl : er = .nilIface := hE
  obtain ⟨b, hbdef⟩ : ∃ y, y = geoB [b1, b2] g 0 := ⟨_, rfl⟩
  rw [← hbdef] at hR
  have HBD := Aside0.mk hbdef
  have hbl : b.length ≤ 1048576 := by have := (geoB_le [b1, b2] g 0).1; have := HT.out.2.2.1; rw [hbdef]; omega
  have hb9 : 9 ≤ b.length := by rw [hbdef]; exact (geoB_ge _ _ _).1
  obtain ⟨D, d, e2_⟩ := Kd.R_slice hR
  subst e2_
  have RB := Aside0.mk (Kd.R_reads' hR).2
  clear hR hbdef
  have n_ := Aside0.mk (below_step HB.out hb_)
  clear HB
  have HB := n_
  clear n_
  have n_ := Aside0.mk (Handle_below HH.out hb_)
  clear HH
  have HH := n_
  clear n_
  have n_ := Aside0.mk (And.intro RX.out.1 (Kd.C_below RX.out.2 hb_))
  clear RX
  have RX := n_
  clear n_
  have n_ := Aside0.mk (IG.out.below hb_)
  clear IG
  have IG := n_
  clear n_
  have n_ := Aside0.mk (blk_below KG.out hb_)
  clear KG
  have KG := n_
  clear n_
  clear hb_
  clear KB
  have zG0_ : W5.cell? ⟨gl, 0, none⟩ = some (.int .i64 g.f0) := (blk_cell KG.out 0).trans rfl
  have zG1_ : W5.cell? ⟨gl, 1, none⟩ = some (.slice G1 g.f1.length g1_) := (blk_cell KG.out 1).trans rfl
  have zG2_ : W5.cell? ⟨gl, 2, none⟩ = some (.slice G2 g.f2.length g2_) := (blk_cell KG.out 2).trans rfl
  have zG3_ : W5.cell? ⟨gl, 3, none⟩ = some (.slice G3 g.f3.length g3_) := (blk_cell KG.out 3).trans rfl
  go_wp2_with fail
  clear zG0_ zG1_ zG2_ zG3_
  refine (cut_calls A2 c2 X W5 RX.out.2 RX.out.1).mono ?_
  rintro e W6 ⟨u, rfl, hR, hb_⟩
  obtain ⟨Y, hY⟩ : ∃ y, y = cutB X := ⟨_, rfl⟩
  have hYl : Y.length ≤ 1500 := by rw [hY]; exact cutB_len X
  have HY := Aside0.mk hY
  clear hY
  rw [← HY.out] at hR
  obtain ⟨E1, e1, e2_⟩ := Kd.R_slice hR
  subst e2_
  have RY1 := Aside0.mk (Kd.R_reads' hR).2
  clear hR
  have n_ := Aside0.mk (below_step HB.out hb_)
  clear HB
  have HB := n_
  clear n_
  have n_ := Aside0.mk (Handle_below HH.out hb_)
  clear HH
  have HH := n_
  clear n_
  have n_ := Aside0.mk (And.intro RX.out.1 (Kd.C_below RX.out.2 hb_))
  clear RX
  have RX := n_
  clear n_
  have n_ := Aside0.mk (IG.out.below hb_)
  clear IG
  have IG := n_
  clear n_
  have n_ := Aside0.mk (blk_below KG.out hb_)
  clear KG
  have KG := n_
  clear n_
  have n_ := Aside0.mk (And.intro RB.out.1 (Kd.C_below RB.out.2 hb_))
  clear RB
  have RB := n_
  clear n_
  clear hb_
  have hsum : wrap64 ((b.length : Int) + (Y.length : Int)) = (b.length : Int) + (Y.length : Int) := by unfold wrap64; omega
  have zG0_ : W6.cell? ⟨gl, 0, none⟩ = some (.int .i64 g.f0) := (blk_cell KG.out 0).trans rfl
  have zG1_ : W6.cell? ⟨gl, 1, none⟩ = some (.slice G1 g.f1.length g1_) := (blk_cell KG.out 1).trans rfl
  have zG2_ : W6.cell? ⟨gl, 2, none⟩ = some (.slice G2 g.f2.length g2_) := (blk_cell KG.out 2).trans rfl
  have zG3_ : W6.cell? ⟨gl, 3, none⟩ = some (.slice G3 g.f3.length g3_) := (blk_cell KG.out 3).trans rfl
  by_cases hbig : 65536 < (b.length : Int) + (Y.length : Int)
  · go_wp2_with fail
    go_ret
    exact ⟨rfl, HB.out⟩
  have hbig' : b.length + Y.length ≤ 65536 := by omega
  go_wp2_with fail
  clear zG0_ zG1_ zG2_ zG3_
  refine (intoM_calls a1 (b.length : Int) (by omega) (by omega) W6).mono ?_
  rintro e W7 ⟨rfl, hb_⟩
  have hkr := intoN_range a1 (b.length : Int) (by omega)
  obtain ⟨k, hk⟩ : ∃ k : Nat, (k : Int) = intoN a1 (b.length : Int) := ⟨(intoN a1 (b.length : Int)).toNat, by omega⟩
  rw [← hk] at hkr ⊢
  clear hk
  have hkl : k < b.length := by omega
  have n_ := Aside0.mk (below_step HB.out hb_)
  clear HB
  have HB := n_
  clear n_
  have n_ := Aside0.mk (Handle_below HH.out hb_)
  clear HH
  have HH := n_
  clear n_
  have n_ := Aside0.mk (And.intro RX.out.1 (Kd.C_below RX.out.2 hb_))
  clear RX
  have RX := n_
  clear n_
  have n_ := Aside0.mk (IG.out.below hb_)
  clear IG
  have IG := n_
  clear n_
  have n_ := Aside0.mk (blk_below KG.out hb_)
  clear KG
  have KG := n_
  clear n_
  have n_ := Aside0.mk (And.intro RB.out.1 (Kd.C_below RB.out.2 hb_))
  clear RB
  have RB := n_
  clear n_
  have n_ := Aside0.mk (And.intro RY1.out.1 (Kd.C_below RY1.out.2 hb_))
  clear RY1
  have RY1 := n_
  clear n_
  clear hb_
  have zG0_ : W7.cell? ⟨gl, 0, none⟩ = some (.int .i64 g.f0) := (blk_cell KG.out 0).trans rfl
  have zG1_ : W7.cell? ⟨gl, 1, none⟩ = some (.slice G1 g.f1.length g1_) := (blk_cell KG.out 1).trans rfl
  have zG2_ : W7.cell? ⟨gl, 2, none⟩ = some (.slice G2 g.f2.length g2_) := (blk_cell KG.out 2).trans rfl
  have zG3_ : W7.cell? ⟨gl, 3, none⟩ = some (.slice G3 g.f3.length g3_) := (blk_cell KG.out 3).trans rfl
  have hdc : b.length ≤ d := RB.out.1
  have hkd : (k : Int) ≤ (d : Int) := by omega
  go_wp2_with fail
  obtain ⟨p, ec, hpr, hec, hp0, hp1⟩ : ∃ p e : Int, parsedR (b.take k) 256 65536 = .error (p, e) ∧ (e = 160 ∨ e = 173) ∧ 0 ≤ p ∧ p ≤ k := by
    rw [HBD.out] at hkl hbig' ⊢
    exact parsed_cut [b1, b2] g 256 65536 k HT.out.1 (by have := HT.out.2.2.1; omega) (fun x hx => by have := HT.out.2.1 x hx; omega) (by omega) hkl
  have hlk : (b.take k).length = k := by rw [List.length_take]; omega
  have hpc := parse_err D d (b.take k) 256 65536 W7 (p, ec) (Kd.C_take RB.out.2 (by omega)) (by omega) (by omega) hpr
  rw [hlk] at hpc
  clear zG0_ zG1_ zG2_ zG3_
  refine (hpc).mono ?_
  rintro e W8 ⟨gep, rfl, hev_, hb_⟩
  have EP := Aside0.mk hev_
  clear hev_
  have n_ := Aside0.mk (below_step HB.out hb_)
  clear HB
  have HB := n_
  clear n_
  have n_ := Aside0.mk (Handle_below HH.out hb_)
  clear HH
  have HH := n_
  clear n_
  have n_ := Aside0.mk (And.intro RX.out.1 (Kd.C_below RX.out.2 hb_))
  clear RX
  have RX := n_
  clear n_
  have n_ := Aside0.mk (IG.out.below hb_)
  clear IG
  have IG := n_
  clear n_
  have n_ := Aside0.mk (blk_below KG.out hb_)
  clear KG
  have KG := n_
  clear n_
  have n_ := Aside0.mk (And.intro RB.out.1 (Kd.C_below RB.out.2 hb_))
  clear RB
  have RB := n_
  clear n_
  have n_ := Aside0.mk (And.intro RY1.out.1 (Kd.C_below RY1.out.2 hb_))
  clear RY1
  have RY1 := n_
  clear n_
  clear hb_
  clear hpc hpr hlk
  go_upto_region 9 with fail
  obtain ⟨gp, hgp_⟩ : ∃ x, x = W8.heap.size := ⟨_, rfl⟩
  obtain ⟨W9, hW9_⟩ : ∃ x, x = W8.alloc (.cells #[.int .i64 0, .slice none 0 0, .slice none 0 0, .slice none 0 0] 28) := ⟨_, rfl⟩
  rw [← hW9_, ← hgp_]
  have KP := Aside0.mk (show W9.heap[gp]? = some (.cells #[.int .i64 0, .slice none 0 0, .slice none 0 0, .slice none 0 0] 28 (0, 0)) by rw [hW9_, hgp_]; exact World.alloc_heap_new _ _)
  have hb_ : Below W8.heap.size W8 W9 := by rw [hW9_]; exact below_alloc (Below.refl _ _) _
  clear hW9_ hgp_
  have n_ := Aside0.mk (below_step HB.out hb_)
  clear HB
  have HB := n_
  clear n_
  have n_ := Aside0.mk (Handle_below HH.out hb_)
  clear HH
  have HH := n_
  clear n_
  have n_ := Aside0.mk (And.intro RX.out.1 (Kd.C_below RX.out.2 hb_))
  clear RX
  have RX := n_
  clear n_
  have n_ := Aside0.mk (IG.out.below hb_)
  clear IG
  have IG := n_
  clear n_
  have n_ := Aside0.mk (blk_below KG.out hb_)
  clear KG
  have KG := n_
  clear n_
  have n_ := Aside0.mk (And.intro RB.out.1 (Kd.C_below RB.out.2 hb_))
  clear RB
  have RB := n_
  clear n_
  have n_ := Aside0.mk (And.intro RY1.out.1 (Kd.C_below RY1.out.2 hb_))
  clear RY1
  have RY1 := n_
  clear n_
  have n_ := Aside0.mk (ErrV.below EP.out hb_)
  clear EP
  have EP := n_
  clear n_
  clear hb_
  have zG0_ : W9.cell? ⟨gl, 0, none⟩ = some (.int .i64 g.f0) := (blk_cell KG.out 0).trans rfl
  have zG1_ : W9.cell? ⟨gl, 1, none⟩ = some (.slice G1 g.f1.length g1_) := (blk_cell KG.out 1).trans rfl
  have zG2_ : W9.cell? ⟨gl, 2, none⟩ = some (.slice G2 g.f2.length g2_) := (blk_cell KG.out 2).trans rfl
  have zG3_ : W9.cell? ⟨gl, 3, none⟩ = some (.slice G3 g.f3.length g3_) := (blk_cell KG.out 3).trans rfl
  have zP0_ : W9.cell? ⟨gp, 0, none⟩ = some (.int .i64 0) := (blk_cell KP.out 0).trans rfl
  have zP1_ : W9.cell? ⟨gp, 1, none⟩ = some (.slice none 0 0) := (blk_cell KP.out 1).trans rfl
  have zP2_ : W9.cell? ⟨gp, 2, none⟩ = some (.slice none 0 0) := (blk_cell KP.out 2).trans rfl
  have zP3_ : W9.cell? ⟨gp, 3, none⟩ = some (.slice none 0 0) := (blk_cell KP.out 3).trans rfl
  go_cut [87] from 64 to 86 (fun v wx => v = .bool false ∧ Below W9.heap.size W9 wx)
  case first =>
    have HQ := Aside0.mk (Below.refl W9.heap.size W9)
    rcases hec with rfl | rfl
    · go_wp2_with fail
      clear zG0_ zG1_ zG2_ zG3_ zP0_ zP1_ zP2_ zP3_
      refine (zero_no W9).mono ?_
      rintro e W10 ⟨rfl, hb_⟩
      have n_ := Aside0.mk (below_step HB.out hb_)
      clear HB
      have HB := n_
      clear n_
      have n_ := Aside0.mk (Handle_below HH.out hb_)
      clear HH
      have HH := n_
      clear n_
      have n_ := Aside0.mk (And.intro RX.out.1 (Kd.C_below RX.out.2 hb_))
      clear RX
      have RX := n_
      clear n_
      have n_ := Aside0.mk (IG.out.below hb_)
      clear IG
      have IG := n_
      clear n_
      have n_ := Aside0.mk (blk_below KG.out hb_)
      clear KG
      have KG := n_
      clear n_
      have n_ := Aside0.mk (And.intro RB.out.1 (Kd.C_below RB.out.2 hb_))
      clear RB
      have RB := n_
      clear n_
      have n_ := Aside0.mk (And.intro RY1.out.1 (Kd.C_below RY1.out.2 hb_))
      clear RY1
      have RY1 := n_
      clear n_
      have n_ := Aside0.mk (ErrV.below EP.out hb_)
      clear EP
      have EP := n_
      clear n_
      have n_ := Aside0.mk (blk_below KP.out hb_)
      clear KP
      have KP := n_
      clear n_
      have n_ := Aside0.mk (below_step HQ.out hb_)
      clear HQ
      have HQ := n_
      clear n_
      clear hb_
      have zG0_ : W10.cell? ⟨gl, 0, none⟩ = some (.int .i64 g.f0) := (blk_cell KG.out 0).trans rfl
      have zG1_ : W10.cell? ⟨gl, 1, none⟩ = some (.slice G1 g.f1.length g1_) := (blk_cell KG.out 1).trans rfl
      have zG2_ : W10.cell? ⟨gl, 2, none⟩ = some (.slice G2 g.f2.length g2_) := (blk_cell KG.out 2).trans rfl
      have zG3_ : W10.cell? ⟨gl, 3, none⟩ = some (.slice G3 g.f3.length g3_) := (blk_cell KG.out 3).trans rfl
      have zP0_ : W10.cell? ⟨gp, 0, none⟩ = some (.int .i64 0) := (blk_cell KP.out 0).trans rfl
      have zP1_ : W10.cell? ⟨gp, 1, none⟩ = some (.slice none 0 0) := (blk_cell KP.out 1).trans rfl
      have zP2_ : W10.cell? ⟨gp, 2, none⟩ = some (.slice none 0 0) := (blk_cell KP.out 2).trans rfl
      have zP3_ : W10.cell? ⟨gp, 3, none⟩ = some (.slice none 0 0) := (blk_cell KP.out 3).trans rfl
      go_wp2_with fail
      clear zG0_ zG1_ zG2_ zG3_ zP0_ zP1_ zP2_ zP3_
      refine (Code_calls _ (some (p, 160)) W10 HH.out EP.out).mono ?_
      rintro e W11 ⟨rfl, hb_⟩
      rw [show codeOf (some (p, 160)) = 160 from rfl]
      have n_ := Aside0.mk (below_step HB.out hb_)
      clear HB
      have HB := n_
      clear n_
      have n_ := Aside0.mk (Handle_below HH.out hb_)
      clear HH
      have HH := n_
      clear n_
      have n_ := Aside0.mk (And.intro RX.out.1 (Kd.C_below RX.out.2 hb_))
      clear RX
      have RX := n_
      clear n_
      have n_ := Aside0.mk (IG.out.below hb_)
      clear IG
      have IG := n_
      clear n_
      have n_ := Aside0.mk (blk_below KG.out hb_)
      clear KG
      have KG := n_
      clear n_
      have n_ := Aside0.mk (And.intro RB.out.1 (Kd.C_below RB.out.2 hb_))
      clear RB
      have RB := n_
      clear n_
      have n_ := Aside0.mk (And.intro RY1.out.1 (Kd.C_below RY1.out.2 hb_))
      clear RY1
      have RY1 := n_
      clear n_
      have n_ := Aside0.mk (ErrV.below EP.out hb_)
      clear EP
      have EP := n_
      clear n_
      have n_ := Aside0.mk (blk_below KP.out hb_)
      clear KP
      have KP := n_
      clear n_
      have n_ := Aside0.mk (below_step HQ.out hb_)
      clear HQ
      have HQ := n_
      clear n_
      clear hb_
      have zG0_ : W11.cell? ⟨gl, 0, none⟩ = some (.int .i64 g.f0) := (blk_cell KG.out 0).trans rfl
      have zG1_ : W11.cell? ⟨gl, 1, none⟩ = some (.slice G1 g.f1.length g1_) := (blk_cell KG.out 1).trans rfl
      have zG2_ : W11.cell? ⟨gl, 2, none⟩ = some (.slice G2 g.f2.length g2_) := (blk_cell KG.out 2).trans rfl
      have zG3_ : W11.cell? ⟨gl, 3, none⟩ = some (.slice G3 g.f3.length g3_) := (blk_cell KG.out 3).trans rfl
      have zP0_ : W11.cell? ⟨gp, 0, none⟩ = some (.int .i64 0) := (blk_cell KP.out 0).trans rfl
      have zP1_ : W11.cell? ⟨gp, 1, none⟩ = some (.slice none 0 0) := (blk_cell KP.out 1).trans rfl
      have zP2_ : W11.cell? ⟨gp, 2, none⟩ = some (.slice none 0 0) := (blk_cell KP.out 2).trans rfl
      have zP3_ : W11.cell? ⟨gp, 3, none⟩ = some (.slice none 0 0) := (blk_cell KP.out 3).trans rfl
      go_wp2_with fail
      clear zG0_ zG1_ zG2_ zG3_ zP0_ zP1_ zP2_ zP3_
      refine (Place_calls _ (some (p, 160)) W11 HH.out EP.out).mono ?_
      rintro e W12 ⟨rfl, hb_⟩
      rw [show placeOf (some (p, 160)) = p from rfl]
      have n_ := Aside0.mk (below_step HB.out hb_)
      clear HB
      have HB := n_
      clear n_
      have n_ := Aside0.mk (Handle_below HH.out hb_)
      clear HH
      have HH := n_
      clear n_
      have n_ := Aside0.mk (And.intro RX.out.1 (Kd.C_below RX.out.2 hb_))
      clear RX
      have RX := n_
      clear n_
      have n_ := Aside0.mk (IG.out.below hb_)
      clear IG
      have IG := n_
      clear n_
      have n_ := Aside0.mk (blk_below KG.out hb_)
      clear KG
      have KG := n_
      clear n_
      have n_ := Aside0.mk (And.intro RB.out.1 (Kd.C_below RB.out.2 hb_))
      clear RB
      have RB := n_
      clear n_
      have n_ := Aside0.mk (And.intro RY1.out.1 (Kd.C_below RY1.out.2 hb_))
      clear RY1
      have RY1 := n_
      clear n_
      have n_ := Aside0.mk (ErrV.below EP.out hb_)
      clear EP
      have EP := n_
      clear n_
      have n_ := Aside0.mk (blk_below KP.out hb_)
      clear KP
      have KP := n_
      clear n_
      have n_ := Aside0.mk (below_step HQ.out hb_)
      clear HQ
      have HQ := n_
      clear n_
      clear hb_
      have zG0_ : W12.cell? ⟨gl, 0, none⟩ = some (.int .i64 g.f0) := (blk_cell KG.out 0).trans rfl
      have zG1_ : W12.cell? ⟨gl, 1, none⟩ = some (.slice G1 g.f1.length g1_) := (blk_cell KG.out 1).trans rfl
      have zG2_ : W12.cell? ⟨gl, 2, none⟩ = some (.slice G2 g.f2.length g2_) := (blk_cell KG.out 2).trans rfl
      have zG3_ : W12.cell? ⟨gl, 3, none⟩ = some (.slice G3 g.f3.length g3_) := (blk_cell KG.out 3).trans rfl
      have zP0_ : W12.cell? ⟨gp, 0, none⟩ = some (.int .i64 0) := (blk_cell KP.out 0).trans rfl
      have zP1_ : W12.cell? ⟨gp, 1, none⟩ = some (.slice none 0 0) := (blk_cell KP.out 1).trans rfl
      have zP2_ : W12.cell? ⟨gp, 2, none⟩ = some (.slice none 0 0) := (blk_cell KP.out 2).trans rfl
      have zP3_ : W12.cell? ⟨gp, 3, none⟩ = some (.slice none 0 0) := (blk_cell KP.out 3).trans rfl
      go_wp2_with fail
      clear zG0_ zG1_ zG2_ zG3_ zP0_ zP1_ zP2_ zP3_
      refine (Place_calls _ (some (p, 160)) W12 HH.out EP.out).mono ?_
      rintro e W13 ⟨rfl, hb_⟩
      rw [show placeOf (some (p, 160)) = p from rfl]
      have n_ := Aside0.mk (below_step HB.out hb_)
      clear HB
      have HB := n_
      clear n_
      have n_ := Aside0.mk (Handle_below HH.out hb_)
      clear HH
      have HH := n_
      clear n_
      have n_ := Aside0.mk (And.intro RX.out.1 (Kd.C_below RX.out.2 hb_))
      clear RX
      have RX := n_
      clear n_
      have n_ := Aside0.mk (IG.out.below hb_)
      clear IG
      have IG := n_
      clear n_
      have n_ := Aside0.mk (blk_below KG.out hb_)
      clear KG
      have KG := n_
      clear n_
      have n_ := Aside0.mk (And.intro RB.out.1 (Kd.C_below RB.out.2 hb_))
      clear RB
      have RB := n_
      clear n_
      have n_ := Aside0.mk (And.intro RY1.out.1 (Kd.C_below RY1.out.2 hb_))
      clear RY1
      have RY1 := n_
      clear n_
      have n_ := Aside0.mk (ErrV.below EP.out hb_)
      clear EP
      have EP := n_
      clear n_
      have n_ := Aside0.mk (blk_below KP.out hb_)
      clear KP
      have KP := n_
      clear n_
      have n_ := Aside0.mk (below_step HQ.out hb_)
      clear HQ
      have HQ := n_
      clear n_
      clear hb_
      have zG0_ : W13.cell? ⟨gl, 0, none⟩ = some (.int .i64 g.f0) := (blk_cell KG.out 0).trans rfl
      have zG1_ : W13.cell? ⟨gl, 1, none⟩ = some (.slice G1 g.f1.length g1_) := (blk_cell KG.out 1).trans rfl
      have zG2_ : W13.cell? ⟨gl, 2, none⟩ = some (.slice G2 g.f2.length g2_) := (blk_cell KG.out 2).trans rfl
      have zG3_ : W13.cell? ⟨gl, 3, none⟩ = some (.slice G3 g.f3.length g3_) := (blk_cell KG.out 3).trans rfl
      have zP0_ : W13.cell? ⟨gp, 0, none⟩ = some (.int .i64 0) := (blk_cell KP.out 0).trans rfl
      have zP1_ : W13.cell? ⟨gp, 1, none⟩ = some (.slice none 0 0) := (blk_cell KP.out 1).trans rfl
      have zP2_ : W13.cell? ⟨gp, 2, none⟩ = some (.slice none 0 0) := (blk_cell KP.out 2).trans rfl
      have zP3_ : W13.cell? ⟨gp, 3, none⟩ = some (.slice none 0 0) := (blk_cell KP.out 3).trans rfl
      go_wp2_with fail
      go_meet
      exact ⟨by rw [show (decide (p < 0) || decide ((k : Int) < p)) = false from by simp; omega], HQ.out⟩
    · go_wp2_with fail
      clear zG0_ zG1_ zG2_ zG3_ zP0_ zP1_ zP2_ zP3_
      refine (zero_no W9).mono ?_
      rintro e W10 ⟨rfl, hb_⟩
      have n_ := Aside0.mk (below_step HB.out hb_)
      clear HB
      have HB := n_
      clear n_
      have n_ := Aside0.mk (Handle_below HH.out hb_)
      clear HH
      have HH := n_
      clear n_
      have n_ := Aside0.mk (And.intro RX.out.1 (Kd.C_below RX.out.2 hb_))
      clear RX
      have RX := n_
      clear n_
      have n_ := Aside0.mk (IG.out.below hb_)
      clear IG
      have IG := n_
      clear n_
      have n_ := Aside0.mk (blk_below KG.out hb_)
      clear KG
      have KG := n_
      clear n_
      have n_ := Aside0.mk (And.intro RB.out.1 (Kd.C_below RB.out.2 hb_))
      clear RB
      have RB := n_
      clear n_
      have n_ := Aside0.mk (And.intro RY1.out.1 (Kd.C_below RY1.out.2 hb_))
      clear RY1
      have RY1 := n_
      clear n_
      have n_ := Aside0.mk (ErrV.below EP.out hb_)
      clear EP
      have EP := n_
      clear n_
      have n_ := Aside0.mk (blk_below KP.out hb_)
      clear KP
      have KP := n_
      clear n_
      have n_ := Aside0.mk (below_step HQ.out hb_)
      clear HQ
      have HQ := n_
      clear n_
      clear hb_
      have zG0_ : W10.cell? ⟨gl, 0, none⟩ = some (.int .i64 g.f0) := (blk_cell KG.out 0).trans rfl
      have zG1_ : W10.cell? ⟨gl, 1, none⟩ = some (.slice G1 g.f1.length g1_) := (blk_cell KG.out 1).trans rfl
      have zG2_ : W10.cell? ⟨gl, 2, none⟩ = some (.slice G2 g.f2.length g2_) := (blk_cell KG.out 2).trans rfl
      have zG3_ : W10.cell? ⟨gl, 3, none⟩ = some (.slice G3 g.f3.length g3_) := (blk_cell KG.out 3).trans rfl
      have zP0_ : W10.cell? ⟨gp, 0, none⟩ = some (.int .i64 0) := (blk_cell KP.out 0).trans rfl
      have zP1_ : W10.cell? ⟨gp, 1, none⟩ = some (.slice none 0 0) := (blk_cell KP.out 1).trans rfl
      have zP2_ : W10.cell? ⟨gp, 2, none⟩ = some (.slice none 0 0) := (blk_cell KP.out 2).trans rfl
      have zP3_ : W10.cell? ⟨gp, 3, none⟩ = some (.slice none 0 0) := (blk_cell KP.out 3).trans rfl
      go_wp2_with fail
      clear zG0_ zG1_ zG2_ zG3_ zP0_ zP1_ zP2_ zP3_
      refine (Code_calls _ (some (p, 173)) W10 HH.out EP.out).mono ?_
      rintro e W11 ⟨rfl, hb_⟩
      rw [show codeOf (some (p, 173)) = 173 from rfl]
      have n_ := Aside0.mk (below_step HB.out hb_)
      clear HB
      have HB := n_
      clear n_
      have n_ := Aside0.mk (Handle_below HH.out hb_)
      clear HH
      have HH := n_
      clear n_
      have n_ := Aside0.mk (And.intro RX.out.1 (Kd.C_below RX.out.2 hb_))
      clear RX
      have RX := n_
      clear n_
      have n_ := Aside0.mk (IG.out.below hb_)
      clear IG
      have IG := n_
      clear n_
      have n_ := Aside0.mk (blk_below KG.out hb_)
      clear KG
      have KG := n_
      clear n_
      have n_ := Aside0.mk (And.intro RB.out.1 (Kd.C_below RB.out.2 hb_))
      clear RB
      have RB := n_
      clear n_
      have n_ := Aside0.mk (And.intro RY1.out.1 (Kd.C_below RY1.out.2 hb_))
      clear RY1
      have RY1 := n_
      clear n_
      have n_ := Aside0.mk (ErrV.below EP.out hb_)
      clear EP
      have EP := n_
      clear n_
      have n_ := Aside0.mk (blk_below KP.out hb_)
      clear KP
      have KP := n_
      clear n_
      have n_ := Aside0.mk (below_step HQ.out hb_)
      clear HQ
      have HQ := n_
      clear n_
      clear hb_
      have zG0_ : W11.cell? ⟨gl, 0, none⟩ = some (.int .i64 g.f0) := (blk_cell KG.out 0).trans rfl
      have zG1_ : W11.cell? ⟨gl, 1, none⟩ = some (.slice G1 g.f1.length g1_) := (blk_cell KG.out 1).trans rfl
      have zG2_ : W11.cell? ⟨gl, 2, none⟩ = some (.slice G2 g.f2.length g2_) := (blk_cell KG.out 2).trans rfl
      have zG3_ : W11.cell? ⟨gl, 3, none⟩ = some (.slice G3 g.f3.length g3_) := (blk_cell KG.out 3).trans rfl
      have zP0_ : W11.cell? ⟨gp, 0, none⟩ = some (.int .i64 0) := (blk_cell KP.out 0).trans rfl
      have zP1_ : W11.cell? ⟨gp, 1, none⟩ = some (.slice none 0 0) := (blk_cell KP.out 1).trans rfl
      have zP2_ : W11.cell? ⟨gp, 2, none⟩ = some (.slice none 0 0) := (blk_cell KP.out 2).trans rfl
      have zP3_ : W11.cell? ⟨gp, 3, none⟩ = some (.slice none 0 0) := (blk_cell KP.out 3).trans rfl
      go_wp2_with fail
      clear zG0_ zG1_ zG2_ zG3_ zP0_ zP1_ zP2_ zP3_
      refine (Code_calls _ (some (p, 173)) W11 HH.out EP.out).mono ?_
      rintro e W12 ⟨rfl, hb_⟩
      rw [show codeOf (some (p, 173)) = 173 from rfl]
      have n_ := Aside0.mk (below_step HB.out hb_)
      clear HB
      have HB := n_
      clear n_
      have n_ := Aside0.mk (Handle_below HH.out hb_)
      clear HH
      have HH := n_
      clear n_
      have n_ := Aside0.mk (And.intro RX.out.1 (Kd.C_below RX.out.2 hb_))
      clear RX
      have RX := n_
      clear n_
      have n_ := Aside0.mk (IG.out.below hb_)
      clear IG
      have IG := n_
      clear n_
      have n_ := Aside0.mk (blk_below KG.out hb_)
      clear KG
      have KG := n_
      clear n_
      have n_ := Aside0.mk (And.intro RB.out.1 (Kd.C_below RB.out.2 hb_))
      clear RB
      have RB := n_
      clear n_
      have n_ := Aside0.mk (And.intro RY1.out.1 (Kd.C_below RY1.out.2 hb_))
      clear RY1
      have RY1 := n_
      clear n_
      have n_ := Aside0.mk (ErrV.below EP.out hb_)
      clear EP
      have EP := n_
      clear n_
      have n_ := Aside0.mk (blk_below KP.out hb_)
      clear KP
      have KP := n_
      clear n_
      have n_ := Aside0.mk (below_step HQ.out hb_)
      clear HQ
      have HQ := n_
      clear n_
      clear hb_
      have zG0_ : W12.cell? ⟨gl, 0, none⟩ = some (.int .i64 g.f0) := (blk_cell KG.out 0).trans rfl
      have zG1_ : W12.cell? ⟨gl, 1, none⟩ = some (.slice G1 g.f1.length g1_) := (blk_cell KG.out 1).trans rfl
      have zG2_ : W12.cell? ⟨gl, 2, none⟩ = some (.slice G2 g.f2.length g2_) := (blk_cell KG.out 2).trans rfl
      have zG3_ : W12.cell? ⟨gl, 3, none⟩ = some (.slice G3 g.f3.length g3_) := (blk_cell KG.out 3).trans rfl
      have zP0_ : W12.cell? ⟨gp, 0, none⟩ = some (.int .i64 0) := (blk_cell KP.out 0).trans rfl
      have zP1_ : W12.cell? ⟨gp, 1, none⟩ = some (.slice none 0 0) := (blk_cell KP.out 1).trans rfl
      have zP2_ : W12.cell? ⟨gp, 2, none⟩ = some (.slice none 0 0) := (blk_cell KP.out 2).trans rfl
      have zP3_ : W12.cell? ⟨gp, 3, none⟩ = some (.slice none 0 0) := (blk_cell KP.out 3).trans rfl
      go_wp2_with fail
      clear zG0_ zG1_ zG2_ zG3_ zP0_ zP1_ zP2_ zP3_
      refine (Place_calls _ (some (p, 173)) W12 HH.out EP.out).mono ?_
      rintro e W13 ⟨rfl, hb_⟩
      rw [show placeOf (some (p, 173)) = p from rfl]
      have n_ := Aside0.mk (below_step HB.out hb_)
      clear HB
      have HB := n_
      clear n_
      have n_ := Aside0.mk (Handle_below HH.out hb_)
      clear HH
      have HH := n_
      clear n_
      have n_ := Aside0.mk (And.intro RX.out.1 (Kd.C_below RX.out.2 hb_))
      clear RX
      have RX := n_
      clear n_
      have n_ := Aside0.mk (IG.out.below hb_)
      clear IG
      have IG := n_
      clear n_
      have n_ := Aside0.mk (blk_below KG.out hb_)
      clear KG
      have KG := n_
      clear n_
      have n_ := Aside0.mk (And.intro RB.out.1 (Kd.C_below RB.out.2 hb_))
      clear RB
      have RB := n_
      clear n_
      have n_ := Aside0.mk (And.intro RY1.out.1 (Kd.C_below RY1.out.2 hb_))
      clear RY1
      have RY1 := n_
      clear n_
      have n_ := Aside0.mk (ErrV.below EP.out hb_)
      clear EP
      have EP := n_
      clear n_
      have n_ := Aside0.mk (blk_below KP.out hb_)
      clear KP
      have KP := n_
      clear n_
      have n_ := Aside0.mk (below_step HQ.out hb_)
      clear HQ
      have HQ := n_
      clear n_
      clear hb_
      have zG0_ : W13.cell? ⟨gl, 0, none⟩ = some (.int .i64 g.f0) := (blk_cell KG.out 0).trans rfl
      have zG1_ : W13.cell? ⟨gl, 1, none⟩ = some (.slice G1 g.f1.length g1_) := (blk_cell KG.out 1).trans rfl
      have zG2_ : W13.cell? ⟨gl, 2, none⟩ = some (.slice G2 g.f2.length g2_) := (blk_cell KG.out 2).trans rfl
      have zG3_ : W13.cell? ⟨gl, 3, none⟩ = some (.slice G3 g.f3.length g3_) := (blk_cell KG.out 3).trans rfl
      have zP0_ : W13.cell? ⟨gp, 0, none⟩ = some (.int .i64 0) := (blk_cell KP.out 0).trans rfl
      have zP1_ : W13.cell? ⟨gp, 1, none⟩ = some (.slice none 0 0) := (blk_cell KP.out 1).trans rfl
      have zP2_ : W13.cell? ⟨gp, 2, none⟩ = some (.slice none 0 0) := (blk_cell KP.out 2).trans rfl
      have zP3_ : W13.cell? ⟨gp, 3, none⟩ = some (.slice none 0 0) := (blk_cell KP.out 3).trans rfl
      go_wp2_with fail
      clear zG0_ zG1_ zG2_ zG3_ zP0_ zP1_ zP2_ zP3_
      refine (Place_calls _ (some (p, 173)) W13 HH.out EP.out).mono ?_
      rintro e W14 ⟨rfl, hb_⟩
      rw [show placeOf (some (p, 173)) = p from rfl]
      have n_ := Aside0.mk (below_step HB.out hb_)
      clear HB
      have HB := n_
      clear n_
      have n_ := Aside0.mk (Handle_below HH.out hb_)
      clear HH
      have HH := n_
      clear n_
      have n_ := Aside0.mk (And.intro RX.out.1 (Kd.C_below RX.out.2 hb_))
      clear RX
      have RX := n_
      clear n_
      have n_ := Aside0.mk (IG.out.below hb_)
      clear IG
      have IG := n_
      clear n_
      have n_ := Aside0.mk (blk_below KG.out hb_)
      clear KG
      have KG := n_
      clear n_
      have n_ := Aside0.mk (And.intro RB.out.1 (Kd.C_below RB.out.2 hb_))
      clear RB
      have RB := n_
      clear n_
      have n_ := Aside0.mk (And.intro RY1.out.1 (Kd.C_below RY1.out.2 hb_))
      clear RY1
      have RY1 := n_
      clear n_
      have n_ := Aside0.mk (ErrV.below EP.out hb_)
      clear EP
      have EP := n_
      clear n_
      have n_ := Aside0.mk (blk_below KP.out hb_)
      clear KP
      have KP := n_
      clear n_
      have n_ := Aside0.mk (below_step HQ.out hb_)
      clear HQ
      have HQ := n_
      clear n_
      clear hb_
      have zG0_ : W14.cell? ⟨gl, 0, none⟩ = some (.int .i64 g.f0) := (blk_cell KG.out 0).trans rfl
      have zG1_ : W14.cell? ⟨gl, 1, none⟩ = some (.slice G1 g.f1.length g1_) := (blk_cell KG.out 1).trans rfl
      have zG2_ : W14.cell? ⟨gl, 2, none⟩ = some (.slice G2 g.f2.length g2_) := (blk_cell KG.out 2).trans rfl
      have zG3_ : W14.cell? ⟨gl, 3, none⟩ = some (.slice G3 g.f3.length g3_) := (blk_cell KG.out 3).trans rfl
      have zP0_ : W14.cell? ⟨gp, 0, none⟩ = some (.int .i64 0) := (blk_cell KP.out 0).trans rfl
      have zP1_ : W14.cell? ⟨gp, 1, none⟩ = some (.slice none 0 0) := (blk_cell KP.out 1).trans rfl
      have zP2_ : W14.cell? ⟨gp, 2, none⟩ = some (.slice none 0 0) := (blk_cell KP.out 2).trans rfl
      have zP3_ : W14.cell? ⟨gp, 3, none⟩ = some (.slice none 0 0) := (blk_cell KP.out 3).trans rfl
      go_wp2_with fail
      go_meet
      exact ⟨by rw [show (decide (p < 0) || decide ((k : Int) < p)) = false from by simp; omega], HQ.out⟩
  case rest =>
  obtain ⟨rfl, hb_⟩ := hcut
  clear zG0_ zG1_ zG2_ zG3_ zP0_ zP1_ zP2_ zP3_
  clear EP hec
  clear KP
  have n_ := Aside0.mk (below_step HB.out hb_)
  clear HB
  have HB := n_
  clear n_
  have n_ := Aside0.mk (Handle_below HH.out hb_)
  clear HH
  have HH := n_
  clear n_
  have n_ := Aside0.mk (And.intro RX.out.1 (Kd.C_below RX.out.2 hb_))
  clear RX
  have RX := n_
  clear n_
  have n_ := Aside0.mk (IG.out.below hb_)
  clear IG
  have IG := n_
  clear n_
  have n_ := Aside0.mk (blk_below KG.out hb_)
  clear KG
  have KG := n_
  clear n_
  have n_ := Aside0.mk (And.intro RB.out.1 (Kd.C_below RB.out.2 hb_))
  clear RB
  have RB := n_
  clear n_
  have n_ := Aside0.mk (And.intro RY1.out.1 (Kd.C_below RY1.out.2 hb_))
  clear RY1
  have RY1 := n_
  clear n_
  clear hb_
  have zG0_ : wc.cell? ⟨gl, 0, none⟩ = some (.int .i64 g.f0) := (blk_cell KG.out 0).trans rfl
  have zG1_ : wc.cell? ⟨gl, 1, none⟩ = some (.slice G1 g.f1.length g1_) := (blk_cell KG.out 1).trans rfl
  have zG2_ : wc.cell? ⟨gl, 2, none⟩ = some (.slice G2 g.f2.length g2_) := (blk_cell KG.out 2).trans rfl
  have zG3_ : wc.cell? ⟨gl, 3, none⟩ = some (.slice G3 g.f3.length g3_) := (blk_cell KG.out 3).trans rfl
  go_upto_region 11 with fail
  clear zG0_ zG1_ zG2_ zG3_
  go_wp2_with (first | ((with_reducible refine gate_dst (N := 88) rfl ?_); refine Kd.R_lit (Kd.int .u8) (w0 := wc) wc.heap.size 5 ?hg (N := 88) ?hd (xs := ([] : List Int)) (inner := []) (ok := fun _ => True) (okp := fun _ => True) ?hr ?hp (fun _ hk => hk) trivial (Below.refl _ _) (Nat.le_refl _) (by simp) ?_; (case hd => rfl); (case hg => rfl); (case hr => first | (go_simp; done) | (go_simp; rfl)); (case hp => exact (Reps.none _ _)); intro v88 w88 ho88 hb88 hg88 hn88; have O88 := Aside0.mk (And.intro ho88 hb88); clear ho88 hb88 hg88 hn88) | ((with_reducible refine gate_builtin (b := .append) (xs := #[.tmp 88, .tmp 89]) rfl ?_); at_builtin; refine Kd.R_append_rows (Kd.int .u8) (w0 := wc) wc.heap.size rfl (.tmp 88) (.tmp 89) 22 5 (.int .u8 0) 1 rfl Tryd.underlying22 info5b rfl (by decide) (by omega) v88 [] b D b.length d (fun _ => True) (fun _ => False) rfl rfl ?aO ?aR (fun _ _ h => h) (fun _ h => h.elim) ?aF ?aB ?aS ?aL ?_; (case aO => exact O88.out.1); (case aR => exact (Kd.C_below RB.out.2 O88.out.2)); (case aF => exact (fun _ _ => trivial)); (case aB => exact O88.out.2); (case aS => exact O88.out.2.size); (case aL => first | (simp; omega) | omega); intro v90 w90 ho90 hb90 hg90 hat90; have O90 := Aside0.mk (And.intro ho90 hb90); clear ho90 hb90 hg90 hat90))
  rw [List.nil_append] at O90
  refine (cut_calls A2 c2 X w90 (Kd.C_below RX.out.2 O90.out.2) RX.out.1).mono ?_
  rintro e w92 ⟨u, rfl, hR, hb92⟩
  rw [← HY.out] at hR
  obtain ⟨E2, e2, e2_⟩ := Kd.R_slice hR
  subst e2_
  have RY2 := Aside0.mk (Kd.R_reads' hR).2
  have O92 := Aside0.mk (And.intro (Kd.R_below O90.out.1 hb92) (below_step O90.out.2 hb92))
  clear hR hb92
  go_upto_region 12 with ((with_reducible refine gate_builtin (b := .append) (xs := #[.tmp 90, .tmp 92]) rfl ?_); at_builtin; refine Kd.R_append_rows (Kd.int .u8) (w0 := wc) wc.heap.size rfl (.tmp 90) (.tmp 92) 22 5 (.int .u8 0) 1 rfl Tryd.underlying22 info5b rfl (by decide) (by omega) v90 b Y E2 Y.length e2 (fun _ => True) (fun _ => False) rfl rfl ?aO ?aR (fun _ _ h => h) (fun _ h => h.elim) ?aF ?aB ?aS ?aL ?_; (case aO => exact O92.out.1); (case aR => exact RY2.out.2); (case aF => exact (fun _ _ => trivial)); (case aB => exact O92.out.2); (case aS => exact O92.out.2.size); (case aL => first | (simp; omega) | omega); intro v93 w93 ho93 hb93 hg93 hat93; have O93 := Aside0.mk (And.intro ho93 hb93); clear ho93 hb93 hg93 hat93)
  obtain ⟨Z, hZ⟩ : ∃ z_, z_ = b ++ Y := ⟨_, rfl⟩
  rw [← hZ] at O93
  have hR := O93.out.1
  obtain ⟨AZ, cz, e93⟩ := Kd.R_slice hR
  subst e93
  have RZ := Aside0.mk (Kd.R_reads' hR).2
  have hb_ := O93.out.2
  have hZl : Z.length = b.length + Y.length := by rw [hZ, List.length_append]
  have HZ := Aside0.mk (And.intro hZ hZl)
  clear hR O88 O90 O92 O93 RY1 RY2 hZ hZl
  have n_ := Aside0.mk (below_step HB.out hb_)
  clear HB
  have HB := n_
  clear n_
  have n_ := Aside0.mk (Handle_below HH.out hb_)
  clear HH
  have HH := n_
  clear n_
  have n_ := Aside0.mk (And.intro RX.out.1 (Kd.C_below RX.out.2 hb_))
  clear RX
  have RX := n_
  clear n_
  have n_ := Aside0.mk (IG.out.below hb_)
  clear IG
  have IG := n_
  clear n_
  have n_ := Aside0.mk (blk_below KG.out hb_)
  clear KG
  have KG := n_
  clear n_
  have n_ := Aside0.mk (And.intro RB.out.1 (Kd.C_below RB.out.2 hb_))
  clear RB
  have RB := n_
  clear n_
  clear hb_
  have hzl : Z.length ≤ 65536 := by have := HZ.out.2; omega
  have zG0_ : w93.cell? ⟨gl, 0, none⟩ = some (.int .i64 g.f0) := (blk_cell KG.out 0).trans rfl
  have zG1_ : w93.cell? ⟨gl, 1, none⟩ = some (.slice G1 g.f1.length g1_) := (blk_cell KG.out 1).trans rfl
  have zG2_ : w93.cell? ⟨gl, 2, none⟩ = some (.slice G2 g.f2.length g2_) := (blk_cell KG.out 2).trans rfl
  have zG3_ : w93.cell? ⟨gl, 3, none⟩ = some (.slice G3 g.f3.length g3_) := (blk_cell KG.out 3).trans rfl
  go_wp2_with fail
  by_cases hY0 : Y.length = 0
  · have hZb : Z = b := by rw [HZ.out.1, List.length_eq_zero_iff.1 hY0, List.append_nil]
    clear HZ
    subst hZb
    have hpr : parsedR Z 256 65536 = .ok (g, ords [b1, b2] 0 (cntG g)) := by rw [HBD.out] at hbig' ⊢; exact parsed_print [b1, b2] g _ _ HT.out.1 (by have := HT.out.2.2.1; omega) (fun x hx => by have := HT.out.2.1 x hx; omega) (by omega)
    clear zG0_ zG1_ zG2_ zG3_
    refine (parse_ok AZ cz Z 256 65536 w93 g _ RZ.out.2 RZ.out.1 (by omega) hpr).mono ?_
    rintro e W10 ⟨X1, x1_, X2, x2_, X3, x3_, rfl, hcp, hb_⟩
    have IX := Aside0.mk (CopyOf.isG hcp)
    clear hcp
    have n_ := Aside0.mk (below_step HB.out hb_)
    clear HB
    have HB := n_
    clear n_
    have n_ := Aside0.mk (Handle_below HH.out hb_)
    clear HH
    have HH := n_
    clear n_
    have n_ := Aside0.mk (And.intro RX.out.1 (Kd.C_below RX.out.2 hb_))
    clear RX
    have RX := n_
    clear n_
    have n_ := Aside0.mk (IG.out.below hb_)
    clear IG
    have IG := n_
    clear n_
    have n_ := Aside0.mk (blk_below KG.out hb_)
    clear KG
    have KG := n_
    clear n_
    have n_ := Aside0.mk (And.intro RB.out.1 (Kd.C_below RB.out.2 hb_))
    clear RB
    have RB := n_
    clear n_
    have n_ := Aside0.mk (And.intro RZ.out.1 (Kd.C_below RZ.out.2 hb_))
    clear RZ
    have RZ := n_
    clear n_
    clear hb_
    clear hpr
    have zG0_ : W10.cell? ⟨gl, 0, none⟩ = some (.int .i64 g.f0) := (blk_cell KG.out 0).trans rfl
    have zG1_ : W10.cell? ⟨gl, 1, none⟩ = some (.slice G1 g.f1.length g1_) := (blk_cell KG.out 1).trans rfl
    have zG2_ : W10.cell? ⟨gl, 2, none⟩ = some (.slice G2 g.f2.length g2_) := (blk_cell KG.out 2).trans rfl
    have zG3_ : W10.cell? ⟨gl, 3, none⟩ = some (.slice G3 g.f3.length g3_) := (blk_cell KG.out 3).trans rfl
    go_upto_region 13 with fail
    obtain ⟨gx, hgx_⟩ : ∃ x, x = W10.heap.size := ⟨_, rfl⟩
    obtain ⟨W11, hW11_⟩ : ∃ x, x = W10.alloc (.cells #[.int .i64 g.f0, .slice X1 g.f1.length x1_, .slice X2 g.f2.length x2_, .slice X3 g.f3.length x3_] 28) := ⟨_, rfl⟩
    rw [← hW11_, ← hgx_]
    have KX := Aside0.mk (show W11.heap[gx]? = some (.cells #[.int .i64 g.f0, .slice X1 g.f1.length x1_, .slice X2 g.f2.length x2_, .slice X3 g.f3.length x3_] 28 (0, 0)) by rw [hW11_, hgx_]; exact World.alloc_heap_new _ _)
    have hb_ : Below W10.heap.size W10 W11 := by rw [hW11_]; exact below_alloc (Below.refl _ _) _
    clear hW11_ hgx_
    have n_ := Aside0.mk (below_step HB.out hb_)
    clear HB
    have HB := n_
    clear n_
    have n_ := Aside0.mk (Handle_below HH.out hb_)
    clear HH
    have HH := n_
    clear n_
    have n_ := Aside0.mk (And.intro RX.out.1 (Kd.C_below RX.out.2 hb_))
    clear RX
    have RX := n_
    clear n_
    have n_ := Aside0.mk (IG.out.below hb_)
    clear IG
    have IG := n_
    clear n_
    have n_ := Aside0.mk (blk_below KG.out hb_)
    clear KG
    have KG := n_
    clear n_
    have n_ := Aside0.mk (And.intro RB.out.1 (Kd.C_below RB.out.2 hb_))
    clear RB
    have RB := n_
    clear n_
    have n_ := Aside0.mk (And.intro RZ.out.1 (Kd.C_below RZ.out.2 hb_))
    clear RZ
    have RZ := n_
    clear n_
    have n_ := Aside0.mk (IX.out.below hb_)
    clear IX
    have IX := n_
    clear n_
    clear hb_
    clear zG0_ zG1_ zG2_ zG3_
    have zG0_ : W11.cell? ⟨gl, 0, none⟩ = some (.int .i64 g.f0) := (blk_cell KG.out 0).trans rfl
    have zG1_ : W11.cell? ⟨gl, 1, none⟩ = some (.slice G1 g.f1.length g1_) := (blk_cell KG.out 1).trans rfl
    have zG2_ : W11.cell? ⟨gl, 2, none⟩ = some (.slice G2 g.f2.length g2_) := (blk_cell KG.out 2).trans rfl
    have zG3_ : W11.cell? ⟨gl, 3, none⟩ = some (.slice G3 g.f3.length g3_) := (blk_cell KG.out 3).trans rfl
    have zX0_ : W11.cell? ⟨gx, 0, none⟩ = some (.int .i64 g.f0) := (blk_cell KX.out 0).trans rfl
    have zX1_ : W11.cell? ⟨gx, 1, none⟩ = some (.slice X1 g.f1.length x1_) := (blk_cell KX.out 1).trans rfl
    have zX2_ : W11.cell? ⟨gx, 2, none⟩ = some (.slice X2 g.f2.length x2_) := (blk_cell KX.out 2).trans rfl
    have zX3_ : W11.cell? ⟨gx, 3, none⟩ = some (.slice X3 g.f3.length x3_) := (blk_cell KX.out 3).trans rfl
    go_wp2_with fail
    clear zG0_ zG1_ zG2_ zG3_ zX0_ zX1_ zX2_ zX3_
    refine (equal_calls g.bulk _ _ g g W11 IG.out IX.out (Nat.le_refl _) (by have := HT.out.2.2.1; omega) (by have := HT.out.2.2.1; omega)).mono ?_
    rintro e W12 ⟨rfl, hb_⟩
    rw [eqG_self]
    have n_ := Aside0.mk (below_step HB.out hb_)
    clear HB
    have HB := n_
    clear n_
    have n_ := Aside0.mk (Handle_below HH.out hb_)
    clear HH
    have HH := n_
    clear n_
    have n_ := Aside0.mk (And.intro RX.out.1 (Kd.C_below RX.out.2 hb_))
    clear RX
    have RX := n_
    clear n_
    have n_ := Aside0.mk (IG.out.below hb_)
    clear IG
    have IG := n_
    clear n_
    have n_ := Aside0.mk (blk_below KG.out hb_)
    clear KG
    have KG := n_
    clear n_
    have n_ := Aside0.mk (And.intro RB.out.1 (Kd.C_below RB.out.2 hb_))
    clear RB
    have RB := n_
    clear n_
    have n_ := Aside0.mk (And.intro RZ.out.1 (Kd.C_below RZ.out.2 hb_))
    clear RZ
    have RZ := n_
    clear n_
    have n_ := Aside0.mk (IX.out.below hb_)
    clear IX
    have IX := n_
    clear n_
    have n_ := Aside0.mk (blk_below KX.out hb_)
    clear KX
    have KX := n_
    clear n_
    clear hb_
    have zG0_ : W12.cell? ⟨gl, 0, none⟩ = some (.int .i64 g.f0) := (blk_cell KG.out 0).trans rfl
    have zG1_ : W12.cell? ⟨gl, 1, none⟩ = some (.slice G1 g.f1.length g1_) := (blk_cell KG.out 1).trans rfl
    have zG2_ : W12.cell? ⟨gl, 2, none⟩ = some (.slice G2 g.f2.length g2_) := (blk_cell KG.out 2).trans rfl
    have zG3_ : W12.cell? ⟨gl, 3, none⟩ = some (.slice G3 g.f3.length g3_) := (blk_cell KG.out 3).trans rfl
    have zX0_ : W12.cell? ⟨gx, 0, none⟩ = some (.int .i64 g.f0) := (blk_cell KX.out 0).trans rfl
    have zX1_ : W12.cell? ⟨gx, 1, none⟩ = some (.slice X1 g.f1.length x1_) := (blk_cell KX.out 1).trans rfl
    have zX2_ : W12.cell? ⟨gx, 2, none⟩ = some (.slice X2 g.f2.length x2_) := (blk_cell KX.out 2).trans rfl
    have zX3_ : W12.cell? ⟨gx, 3, none⟩ = some (.slice X3 g.f3.length x3_) := (blk_cell KX.out 3).trans rfl
    go_wp2_with fail
    go_ret
    exact ⟨rfl, HB.out⟩
  have hpr : parsedR Z 256 65536 = .error ((b.length : Int), 174) := by have hz := HZ.out.1; rw [HBD.out] at hz hbig' ⊢; rw [hz]; exact parsed_trail [b1, b2] g Y _ _ HT.out.1 (by have := HT.out.2.2.1; omega) (fun x hx => by have := HT.out.2.1 x hx; omega) (by rw [List.length_append]; omega) (fun e => hY0 (by rw [e]; rfl))
  clear zG0_ zG1_ zG2_ zG3_
  refine (parse_err AZ cz Z 256 65536 w93 ((b.length : Int), 174) RZ.out.2 RZ.out.1 (by omega) hpr).mono ?_
  rintro e W10 ⟨gez, rfl, hev_, hb_⟩
  have EZ := Aside0.mk hev_
  clear hev_
  have n_ := Aside0.mk (below_step HB.out hb_)
  clear HB
  have HB := n_
  clear n_
  have n_ := Aside0.mk (Handle_below HH.out hb_)
  clear HH
  have HH := n_
  clear n_
  have n_ := Aside0.mk (And.intro RX.out.1 (Kd.C_below RX.out.2 hb_))
  clear RX
  have RX := n_
  clear n_
  have n_ := Aside0.mk (IG.out.below hb_)
  clear IG
  have IG := n_
  clear n_
  have n_ := Aside0.mk (blk_below KG.out hb_)
  clear KG
  have KG := n_
  clear n_
  have n_ := Aside0.mk (And.intro RB.out.1 (Kd.C_below RB.out.2 hb_))
  clear RB
  have RB := n_
  clear n_
  have n_ := Aside0.mk (And.intro RZ.out.1 (Kd.C_below RZ.out.2 hb_))
  clear RZ
  have RZ := n_
  clear n_
  clear hb_
  clear hpr
  have zG0_ : W10.cell? ⟨gl, 0, none⟩ = some (.int .i64 g.f0) := (blk_cell KG.out 0).trans rfl
  have zG1_ : W10.cell? ⟨gl, 1, none⟩ = some (.slice G1 g.f1.length g1_) := (blk_cell KG.out 1).trans rfl
  have zG2_ : W10.cell? ⟨gl, 2, none⟩ = some (.slice G2 g.f2.length g2_) := (blk_cell KG.out 2).trans rfl
  have zG3_ : W10.cell? ⟨gl, 3, none⟩ = some (.slice G3 g.f3.length g3_) := (blk_cell KG.out 3).trans rfl
  go_upto_region 13 with fail
  obtain ⟨gq, hgq_⟩ : ∃ x, x = W10.heap.size := ⟨_, rfl⟩
  obtain ⟨W11, hW11_⟩ : ∃ x, x = W10.alloc (.cells #[.int .i64 0, .slice none 0 0, .slice none 0 0, .slice none 0 0] 28) := ⟨_, rfl⟩
  rw [← hW11_, ← hgq_]
  have KQ := Aside0.mk (show W11.heap[gq]? = some (.cells #[.int .i64 0, .slice none 0 0, .slice none 0 0, .slice none 0 0] 28 (0, 0)) by rw [hW11_, hgq_]; exact World.alloc_heap_new _ _)
  have hb_ : Below W10.heap.size W10 W11 := by rw [hW11_]; exact below_alloc (Below.refl _ _) _
  clear hW11_ hgq_
  have n_ := Aside0.mk (below_step HB.out hb_)
  clear HB
  have HB := n_
  clear n_
  have n_ := Aside0.mk (Handle_below HH.out hb_)
  clear HH
  have HH := n_
  clear n_
  have n_ := Aside0.mk (And.intro RX.out.1 (Kd.C_below RX.out.2 hb_))
  clear RX
  have RX := n_
  clear n_
  have n_ := Aside0.mk (IG.out.below hb_)
  clear IG
  have IG := n_
  clear n_
  have n_ := Aside0.mk (blk_below KG.out hb_)
  clear KG
  have KG := n_
  clear n_
  have n_ := Aside0.mk (And.intro RB.out.1 (Kd.C_below RB.out.2 hb_))
  clear RB
  have RB := n_
  clear n_
  have n_ := Aside0.mk (And.intro RZ.out.1 (Kd.C_below RZ.out.2 hb_))
  clear RZ
  have RZ := n_
  clear n_
  have n_ := Aside0.mk (ErrV.below EZ.out hb_)
  clear EZ
  have EZ := n_
  clear n_
  clear hb_
  clear zG0_ zG1_ zG2_ zG3_
  have zG0_ : W11.cell? ⟨gl, 0, none⟩ = some (.int .i64 g.f0) := (blk_cell KG.out 0).trans rfl
  have zG1_ : W11.cell? ⟨gl, 1, none⟩ = some (.slice G1 g.f1.length g1_) := (blk_cell KG.out 1).trans rfl
  have zG2_ : W11.cell? ⟨gl, 2, none⟩ = some (.slice G2 g.f2.length g2_) := (blk_cell KG.out 2).trans rfl
  have zG3_ : W11.cell? ⟨gl, 3, none⟩ = some (.slice G3 g.f3.length g3_) := (blk_cell KG.out 3).trans rfl
  have zQ0_ : W11.cell? ⟨gq, 0, none⟩ = some (.int .i64 0) := (blk_cell KQ.out 0).trans rfl
  have zQ1_ : W11.cell? ⟨gq, 1, none⟩ = some (.slice none 0 0) := (blk_cell KQ.out 1).trans rfl
  have zQ2_ : W11.cell? ⟨gq, 2, none⟩ = some (.slice none 0 0) := (blk_cell KQ.out 2).trans rfl
  have zQ3_ : W11.cell? ⟨gq, 3, none⟩ = some (.slice none 0 0) := (blk_cell KQ.out 3).trans rfl
  have hne : ((Z.length : Int) == (b.length : Int)) = false := beq_eq_false_iff_ne.2 (by have := HZ.out.2; omega)
  have hne2 : ¬ Z.length = b.length := by have := HZ.out.2; omega
  go_wp2_with fail
  clear zG0_ zG1_ zG2_ zG3_ zQ0_ zQ1_ zQ2_ zQ3_
  refine (zero_no W11).mono ?_
  rintro e W12 ⟨rfl, hb_⟩
  have n_ := Aside0.mk (below_step HB.out hb_)
  clear HB
  have HB := n_
  clear n_
  have n_ := Aside0.mk (Handle_below HH.out hb_)
  clear HH
  have HH := n_
  clear n_
  have n_ := Aside0.mk (And.intro RX.out.1 (Kd.C_below RX.out.2 hb_))
  clear RX
  have RX := n_
  clear n_
  have n_ := Aside0.mk (IG.out.below hb_)
  clear IG
  have IG := n_
  clear n_
  have n_ := Aside0.mk (blk_below KG.out hb_)
  clear KG
  have KG := n_
  clear n_
  have n_ := Aside0.mk (And.intro RB.out.1 (Kd.C_below RB.out.2 hb_))
  clear RB
  have RB := n_
  clear n_
  have n_ := Aside0.mk (And.intro RZ.out.1 (Kd.C_below RZ.out.2 hb_))
  clear RZ
  have RZ := n_
  clear n_
  have n_ := Aside0.mk (ErrV.below EZ.out hb_)
  clear EZ
  have EZ := n_
  clear n_
  have n_ := Aside0.mk (blk_below KQ.out hb_)
  clear KQ
  have KQ := n_
  clear n_
  clear hb_
  have zG0_ : W12.cell? ⟨gl, 0, none⟩ = some (.int .i64 g.f0) := (blk_cell KG.out 0).trans rfl
  have zG1_ : W12.cell? ⟨gl, 1, none⟩ = some (.slice G1 g.f1.length g1_) := (blk_cell KG.out 1).trans rfl
  have zG2_ : W12.cell? ⟨gl, 2, none⟩ = some (.slice G2 g.f2.length g2_) := (blk_cell KG.out 2).trans rfl
  have zG3_ : W12.cell? ⟨gl, 3, none⟩ = some (.slice G3 g.f3.length g3_) := (blk_cell KG.out 3).trans rfl
  have zQ0_ : W12.cell? ⟨gq, 0, none⟩ = some (.int .i64 0) := (blk_cell KQ.out 0).trans rfl
  have zQ1_ : W12.cell? ⟨gq, 1, none⟩ = some (.slice none 0 0) := (blk_cell KQ.out 1).trans rfl
  have zQ2_ : W12.cell? ⟨gq, 2, none⟩ = some (.slice none 0 0) := (blk_cell KQ.out 2).trans rfl
  have zQ3_ : W12.cell? ⟨gq, 3, none⟩ = some (.slice none 0 0) := (blk_cell KQ.out 3).trans rfl
  go_wp2_with fail
  clear zG0_ zG1_ zG2_ zG3_ zQ0_ zQ1_ zQ2_ zQ3_
  refine (told_yes _ (some ((b.length : Int), 174)) _ W12 HH.out EZ.out (fun _ => ⟨code_ne (by decide), rfl⟩)).mono ?_
  rintro e W13 ⟨rfl, hb_⟩
  have n_ := Aside0.mk (below_step HB.out hb_)
  clear HB
  have HB := n_
  clear n_
  have n_ := Aside0.mk (Handle_below HH.out hb_)
  clear HH
  have HH := n_
  clear n_
  have n_ := Aside0.mk (And.intro RX.out.1 (Kd.C_below RX.out.2 hb_))
  clear RX
  have RX := n_
  clear n_
  have n_ := Aside0.mk (IG.out.below hb_)
  clear IG
  have IG := n_
  clear n_
  have n_ := Aside0.mk (blk_below KG.out hb_)
  clear KG
  have KG := n_
  clear n_
  have n_ := Aside0.mk (And.intro RB.out.1 (Kd.C_below RB.out.2 hb_))
  clear RB
  have RB := n_
  clear n_
  have n_ := Aside0.mk (And.intro RZ.out.1 (Kd.C_below RZ.out.2 hb_))
  clear RZ
  have RZ := n_
  clear n_
  have n_ := Aside0.mk (ErrV.below EZ.out hb_)
  clear EZ
  have EZ := n_
  clear n_
  have n_ := Aside0.mk (blk_below KQ.out hb_)
  clear KQ
  have KQ := n_
  clear n_
  clear hb_
  have zG0_ : W13.cell? ⟨gl, 0, none⟩ = some (.int .i64 g.f0) := (blk_cell KG.out 0).trans rfl
  have zG1_ : W13.cell? ⟨gl, 1, none⟩ = some (.slice G1 g.f1.length g1_) := (blk_cell KG.out 1).trans rfl
  have zG2_ : W13.cell? ⟨gl, 2, none⟩ = some (.slice G2 g.f2.length g2_) := (blk_cell KG.out 2).trans rfl
  have zG3_ : W13.cell? ⟨gl, 3, none⟩ = some (.slice G3 g.f3.length g3_) := (blk_cell KG.out 3).trans rfl
  have zQ0_ : W13.cell? ⟨gq, 0, none⟩ = some (.int .i64 0) := (blk_cell KQ.out 0).trans rfl
  have zQ1_ : W13.cell? ⟨gq, 1, none⟩ = some (.slice none 0 0) := (blk_cell KQ.out 1).trans rfl
  have zQ2_ : W13.cell? ⟨gq, 2, none⟩ = some (.slice none 0 0) := (blk_cell KQ.out 2).trans rfl
  have zQ3_ : W13.cell? ⟨gq, 3, none⟩ = some (.slice none 0 0) := (blk_cell KQ.out 3).trans rfl
  go_wp2_with fail
  go_ret
  exact ⟨rfl, HB.out⟩
end Go.Proofs.YtiiolhnpnlmkjaaDoor.Tree
