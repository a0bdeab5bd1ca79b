/- grower's next by contract: the tree of the nodes ahead, each list of it apart. No conditions but those told. -/
import Derived.Test.YtmcbniobbbjdjaaDoorTGrowSem
import Derived.Test.YtmcbniobbbjdjaaDoorTFind
namespace Go.Proofs.YtmcbniobbbjdjaaDoor.Tree
open Go.RowKit Go.Proofs.YtmcbniobbbjdjaaDoorW.PrintWords Go.Proofs.YtmcbniobbbjdjaaDoorW.PrintLast Go.Proofs.YtmcbniobbbjdjaaDoorW.PrintMore
set_option linter.unusedVariables false
set_option linter.unusedSimpArgs false
theorem soundL_neg {pts : Bool} {left k : Int} {s : List Int} (h : k < 0) : soundL pts left (k :: s) = false := by
  conv => lhs; unfold soundL
  rw [if_pos h]
theorem soundL_big {left k : Int} {s : List Int} (h0 : ¬ k < 0) (h : left < k) : soundL true left (k :: s) = false := by
  conv => lhs; unfold soundL
  rw [if_neg h0, if_pos rfl, if_pos h]
theorem soundL_next {left k : Int} {s : List Int} (h0 : ¬ k < 0) (h : ¬ left < k) : soundL true left (k :: s) = soundL true (left - k) s := by
  conv => lhs; unfold soundL
  rw [if_neg h0, if_pos rfl, if_neg h]
theorem soundL_part {left k : Int} {s : List Int} (h0 : ¬ k < 0) : soundL false left (k :: s) = soundL false left s := by
  conv => lhs; unfold soundL
  rw [if_neg h0, if_neg (by decide)]
def headB (x : Nd) : Bool := kindB x.f0 && (decide (x.f0 = 3) || decide (x.f1.length = 1))
theorem soundB_eq (x : Nd) : soundB x = (headB x && soundL (decide (x.f0 ≤ 3)) (x.f2.length : Int) x.f1) := by unfold soundB headB; rw [Bool.and_assoc]
set_option maxRecDepth 100000 in
set_option maxHeartbeats 8000000 in
theorem sound_calls (x : Nd) (A1 A2 : Option Addr) (c1 c2 : Nat) (w : World) (h1 : Kd.C (Kd.int .i64) w A1 x.f1.length x.f1) (hb1 : x.f1.length ≤ 1073741824) (hb2 : x.f2.length ≤ 1073741824) :
    Calls Tryd.prog 39 #[.agg #[.int .i64 x.f0, .slice A1 x.f1.length c1, .slice A2 x.f2.length c2]] w fun e w' => e = .returned (.bool (soundB x)) ∧ Below w.heap.size w w' := by
  have H1 := Aside0.mk h1
  clear h1
  have hun := Tryd.underlying54
  rw [soundB_eq]
  go_enter Tryd.func39, Tryd.ntmps39
  go_upto_region 1 with fail
  obtain ⟨gn, hgn⟩ : ∃ y, y = w.heap.size := ⟨_, rfl⟩
  obtain ⟨W0, hW0⟩ : ∃ y, y = w.alloc (.cells #[.int .i64 x.f0, .slice A1 x.f1.length c1, .slice A2 x.f2.length c2] 54) := ⟨_, rfl⟩
  rw [← hW0, ← hgn]
  have kn : W0.heap[gn]? = some (.cells #[.int .i64 x.f0, .slice A1 x.f1.length c1, .slice A2 x.f2.length c2] 54 (0, 0)) := by rw [hW0, hgn]; exact World.alloc_heap_new _ _
  have HB := Aside0.mk (show Below w.heap.size w W0 by rw [hW0]; exact below_alloc (Below.refl _ _) _)
  clear hW0 hgn
  have z0 : W0.cell? ⟨gn, 0, none⟩ = some (.int .i64 x.f0) := (blk_cell kn 0).trans rfl
  have z1 : W0.cell? ⟨gn, 1, none⟩ = some (.slice A1 x.f1.length c1) := (blk_cell kn 1).trans rfl
  have z2 : W0.cell? ⟨gn, 2, none⟩ = some (.slice A2 x.f2.length c2) := (blk_cell kn 2).trans rfl
  clear kn
  go_cut [24] (fun c wx => c = .bool (!headB x) ∧ wx = W0)
  case first =>
    by_cases a1 : x.f0 < 1
    · have b1 : ¬ 1 ≤ x.f0 := by omega
      go_wp2_with fail
      go_meet
      exact ⟨by simp [headB, kindB, b1], rfl⟩
    · have b1 : 1 ≤ x.f0 := by omega
      by_cases a2 : 7 < x.f0
      · have b2 : ¬ x.f0 ≤ 7 := by omega
        go_wp2_with fail
        go_meet
        exact ⟨by simp [headB, kindB, b1, b2], rfl⟩
      · have b2 : x.f0 ≤ 7 := by omega
        by_cases a3 : x.f0 = 3
        · have q1 : (x.f0 == 3) = true := beq_iff_eq.mpr a3
          have q2 : (x.f0 != 3) = false := bne_eq_false_iff_eq.mpr a3
          have A3 := Aside0.mk a3
          clear a3
          go_wp2_with fail
          go_meet
          exact ⟨by simp [headB, kindB, A3.out], rfl⟩
        · have q1 : (x.f0 == 3) = false := beq_eq_false_iff_ne.mpr a3
          have q2 : (x.f0 != 3) = true := bne_iff_ne.mpr a3
          by_cases a4 : x.f1.length = 1
          · have q3 : ((x.f1.length : Int) == 1) = true := beq_iff_eq.mpr (by omega)
            have q4 : ((x.f1.length : Int) != 1) = false := bne_eq_false_iff_eq.mpr (by omega)
            have A4 := Aside0.mk a4
            clear a4
            go_wp2_with fail
            go_meet
            exact ⟨by simp [headB, kindB, b1, b2, A4.out], rfl⟩
          · have q3 : ((x.f1.length : Int) == 1) = false := beq_eq_false_iff_ne.mpr (by omega)
            have q4 : ((x.f1.length : Int) != 1) = true := bne_iff_ne.mpr (by omega)
            go_wp2_with fail
            go_meet
            exact ⟨by simp [headB, kindB, b1, b2, a3, a4], rfl⟩
  case rest =>
  obtain ⟨rfl, rfl⟩ := hcut
  cases hh : headB x with
  | false =>
    have HH := Aside0.mk hh
    clear hh
    go_wp2_with fail
    go_ret
    rw [HH.out, Bool.false_and]
    exact ⟨rfl, HB.out⟩
  | true =>
  have HH := Aside0.mk hh
  clear hh
  go_wp2_with fail
  go_loopg [3, 31] x.f1.length (fun kq a i wr => ∃ (k : Nat) (left : Int), k + kq = x.f1.length ∧ i = .int .i64 (k : Int) ∧ a = .int .i64 left ∧ 0 ≤ left ∧ left ≤ 1073741824 ∧ Aside0 (soundL (decide (x.f0 ≤ 3)) (x.f2.length : Int) x.f1 = soundL (decide (x.f0 ≤ 3)) left (x.f1.drop k)) ∧ wr = wc)
  case atStart => exact ⟨0, _, by omega, rfl, rfl, by omega, by omega, ⟨rfl⟩, rfl⟩
  case round =>
    obtain ⟨k, left, hk, rfl, rfl, hl0, hl1, HS, rfl⟩ := hrel
    cases gk with
    | zero =>
      have hlt : ¬ ((k : Int) < (x.f1.length : Int)) := by omega
      obtain rfl : k = x.f1.length := by omega
      rw [List.drop_length] at HS
      by_cases e : left = 0
      · have q1 : (left == 0) = true := beq_iff_eq.mpr e
        have E := Aside0.mk e
        clear e
        go_wp2_with fail
        go_ret
        rw [HH.out, HS.out]
        exact ⟨ret_b (by simp [soundL, E.out]), HB.out⟩
      · have q1 : (left == 0) = false := beq_eq_false_iff_ne.mpr e
        go_wp2_with fail
        go_ret
        rw [HH.out, HS.out]
        exact ⟨ret_b (by simp [soundL, e]), HB.out⟩
    | succ kq =>
      have hlt : (k : Int) < (x.f1.length : Int) := by omega
      have hlt1 : k < x.f1.length := by omega
      have k0 : (0 : Int) ≤ (k : Int) := by omega
      obtain ⟨a1, ea, hx⟩ := at_I H1.out k rfl hlt1
      subst ea
      rw [List.drop_eq_getElem_cons hlt1] at HS
      obtain ⟨j, hj⟩ : ∃ j, j = x.f1[k] := ⟨_, rfl⟩
      rw [← hj] at hx HS
      have hx' := cell_below HB.out hx
      clear hj hx
      by_cases c0 : j < 0
      · have hs := HS.out
        rw [soundL_neg c0] at hs
        have HF := Aside0.mk hs
        clear hs
        go_wp2_with fail
        go_ret
        rw [HF.out, Bool.and_false]
        exact ⟨rfl, HB.out⟩
      · by_cases c3 : x.f0 ≤ 3
        · by_cases c1 : left < j
          · have hs := HS.out
            rw [decide_eq_true c3, soundL_big c0 c1] at hs
            have HF := Aside0.mk hs
            clear hs
            go_wp2_with fail
            go_ret
            rw [HF.out, Bool.and_false]
            exact ⟨rfl, HB.out⟩
          · have hs := HS.out
            rw [decide_eq_true c3, soundL_next c0 c1] at hs
            have HF := Aside0.mk (show soundL (decide (x.f0 ≤ 3)) (x.f2.length : Int) x.f1 = soundL (decide (x.f0 ≤ 3)) (left - j) (x.f1.drop (k + 1)) by rw [decide_eq_true c3]; exact hs)
            clear hs
            go_wp2_with fail
            go_roundg kq
            case measure => omega
            case rel => exact ⟨k + 1, left - j, by omega, by go_num, by go_num, by omega, by omega, HF, rfl⟩
        · have hs := HS.out
          rw [decide_eq_false c3, soundL_part c0] at hs
          have HF := Aside0.mk (show soundL (decide (x.f0 ≤ 3)) (x.f2.length : Int) x.f1 = soundL (decide (x.f0 ≤ 3)) left (x.f1.drop (k + 1)) by rw [decide_eq_false c3]; exact hs)
          clear hs
          go_wp2_with fail
          go_roundg kq
          case measure => omega
          case rel => exact ⟨k + 1, left, by omega, by go_num, rfl, by omega, by omega, HF, rfl⟩
end Go.Proofs.YtmcbniobbbjdjaaDoor.Tree
namespace Go.Proofs.YtmcbniobbbjdjaaDoor.Tree
open Go.RowKit Go.Proofs.YtmcbniobbbjdjaaDoorW.PrintWords Go.Proofs.YtmcbniobbbjdjaaDoorW.PrintLast Go.Proofs.YtmcbniobbbjdjaaDoorW.PrintMore
set_option linter.unusedVariables false
set_option linter.unusedSimpArgs false
/-- All blocks stay but one. -/
def KB (gw : Nat) (w w' : World) : Prop := w.heap.size ≤ w'.heap.size ∧ ∀ k, k < w.heap.size → k ≠ gw → w'.heap[k]? = w.heap[k]?
theorem KB.refl (gw : Nat) (w : World) : KB gw w w := ⟨Nat.le_refl _, fun _ _ _ => rfl⟩
theorem KB.trans {gw : Nat} {a b c : World} (h : KB gw a b) (k : KB gw b c) : KB gw a c := ⟨Nat.le_trans h.1 k.1, fun i hi hn => (k.2 i (Nat.lt_of_lt_of_le hi h.1) hn).trans (h.2 i hi hn)⟩
theorem KB.below {gw : Nat} {w w' : World} (h : Below w.heap.size w w') : KB gw w w' := ⟨h.size, fun k hk _ => h.block k hk⟩
theorem KB.set {gw : Nat} {w w' : World} (h : KB gw w w') {b j : Nat} (hb : w.heap.size ≤ b ∨ b = gw) (v : Value) : KB gw w (w'.setCell ⟨b, j, none⟩ v) :=
  ⟨by simpa using h.1, fun k hk hn => (Below.heap_setCell w' ⟨b, j, none⟩ v k (by show k ≠ b; rcases hb with hb | hb <;> omega)).trans (h.2 k hk hn)⟩
theorem KB.grown {gw : Nat} {w w' w2 : World} (h : KB gw w w') {row : Option Nat} (hg : w'.grownBy w2 row) (hr : ∀ k, row = some k → w.heap.size ≤ k) : KB gw w w2 :=
  ⟨Nat.le_trans h.1 hg.size, fun k hk hn => (hg.block k (Nat.lt_of_lt_of_le hk h.1) (fun e => by have := hr k e.symm; omega)).trans (h.2 k hk hn)⟩
theorem blk_KB {gw : Nat} {w w' : World} (h : KB gw w w') {g : Nat} {o : Obj} (hb : w.heap[g]? = some o) (hn : g ≠ gw) : w'.heap[g]? = some o := (h.2 g (blk_lt hb) hn).trans hb
/-- The boxes of a walk of next: the answer, the result's, the node's, the grower's. -/
structure NX (w0 w W : World) (gw gr gn go_ : Nat) (nc : Array Value) (A : Option Addr) (m c : Nat) (k : Int) (v1 v2 v3 : Value) : Prop where
  o : W.heap[go_]? = some (.cells #[.int .i64 k, v1, v2, v3] 26 (0, 0))
  r : W.heap[gr]? = some (.cells #[.int .i64 0, .slice none 0 0, .slice none 0 0, .slice none 0 0] 26 (0, 0))
  n : W.heap[gn]? = some (.cells nc 54 (0, 0))
  x : W.heap[gw]? = some (.cells #[.slice A m c] 84 (0, 0))
  K : KB gw w W
  B : Below w0.heap.size w0 W
section
variable {w0 w W W' : World} {gw gr gn go_ m c : Nat} {nc : Array Value} {A : Option Addr} {k : Int} {v1 v2 v3 : Value}
theorem NX.below (h : NX w0 w W gw gr gn go_ nc A m c k v1 v2 v3) (hb : Below W.heap.size W W') : NX w0 w W' gw gr gn go_ nc A m c k v1 v2 v3 := ⟨blk_below h.o hb, blk_below h.r hb, blk_below h.n hb, blk_below h.x hb, h.K.trans (KB.below hb), below_step h.B hb⟩
theorem NX.set1 (h : NX w0 w W gw gr gn go_ nc A m c k v1 v2 v3) (ho : w.heap.size ≤ gr ∧ gw < gr ∧ gr < gn ∧ gn < go_) (hw : w0.heap.size ≤ go_) (u : Value) : NX w0 w (W.setCell ⟨go_, 1, none⟩ u) gw gr gn go_ nc A m c k u v2 v3 :=
  ⟨by simpa using blk_set h.o 1 u, blk_far h.r (p := ⟨go_, 1, none⟩) (by show gr ≠ go_; omega) _, blk_far h.n (p := ⟨go_, 1, none⟩) (by show gn ≠ go_; omega) _, blk_far h.x (p := ⟨go_, 1, none⟩) (by show gw ≠ go_; omega) _, h.K.set (.inl (by omega)) _, h.B.setCell (p := ⟨go_, 1, none⟩) hw _⟩
theorem NX.set2 (h : NX w0 w W gw gr gn go_ nc A m c k v1 v2 v3) (ho : w.heap.size ≤ gr ∧ gw < gr ∧ gr < gn ∧ gn < go_) (hw : w0.heap.size ≤ go_) (u : Value) : NX w0 w (W.setCell ⟨go_, 2, none⟩ u) gw gr gn go_ nc A m c k v1 u v3 :=
  ⟨by simpa using blk_set h.o 2 u, blk_far h.r (p := ⟨go_, 2, none⟩) (by show gr ≠ go_; omega) _, blk_far h.n (p := ⟨go_, 2, none⟩) (by show gn ≠ go_; omega) _, blk_far h.x (p := ⟨go_, 2, none⟩) (by show gw ≠ go_; omega) _, h.K.set (.inl (by omega)) _, h.B.setCell (p := ⟨go_, 2, none⟩) hw _⟩
theorem NX.set3 (h : NX w0 w W gw gr gn go_ nc A m c k v1 v2 v3) (ho : w.heap.size ≤ gr ∧ gw < gr ∧ gr < gn ∧ gn < go_) (hw : w0.heap.size ≤ go_) (u : Value) : NX w0 w (W.setCell ⟨go_, 3, none⟩ u) gw gr gn go_ nc A m c k v1 v2 u :=
  ⟨by simpa using blk_set h.o 3 u, blk_far h.r (p := ⟨go_, 3, none⟩) (by show gr ≠ go_; omega) _, blk_far h.n (p := ⟨go_, 3, none⟩) (by show gn ≠ go_; omega) _, blk_far h.x (p := ⟨go_, 3, none⟩) (by show gw ≠ go_; omega) _, h.K.set (.inl (by omega)) _, h.B.setCell (p := ⟨go_, 3, none⟩) hw _⟩
theorem NX.grown (h : NX w0 w W gw gr gn go_ nc A m c k v1 v2 v3) (ho : w.heap.size ≤ gr ∧ gw < gr ∧ gr < gn ∧ gn < go_) {row : Option Nat} (hg : W.grownBy W' row) (hb : Below w0.heap.size w0 W') (hr : ∀ j, row = some j → go_ < j) : NX w0 w W' gw gr gn go_ nc A m c k v1 v2 v3 :=
  ⟨blk_grown h.o hg (fun e => by have := hr _ e.symm; omega), blk_grown h.r hg (fun e => by have := hr _ e.symm; omega), blk_grown h.n hg (fun e => by have := hr _ e.symm; omega), blk_grown h.x hg (fun e => by have := hr _ e.symm; omega), h.K.grown hg (fun j e => by have := hr j e; omega), hb⟩
end
set_option maxRecDepth 100000 in
set_option maxHeartbeats 16000000 in
theorem next_calls (n : Nat) : ∀ (g : Ge) (w0 w : World) (gw m c : Nat) (A : Option Addr) (rest : List Nd), Canon g → g.bulk ≤ n → n ≤ 1073741824 → Below w0.heap.size w0 w → w0.heap.size ≤ gw →
    w.heap[gw]? = some (.cells #[.slice A m c] 84 (0, 0)) → m = (flatN g ++ rest).length → m ≤ c → m ≤ 1073741824 → Kd.C kNd w0 A m (flatN g ++ rest) →
    Calls Tryd.prog 40 #[.pointer (some ⟨gw, 0, none⟩)] w fun e w' => ∃ u, e = .returned u ∧ CopyOf n w w' u g ∧ ∃ A' c', w'.heap[gw]? = some (.cells #[.slice A' rest.length c'] 84 (0, 0)) ∧ rest.length ≤ c' ∧ Kd.C kNd w0 A' rest.length rest ∧ KB gw w w' ∧ Below w0.heap.size w0 w' := by
  induction n with
  | zero => intro g w0 w gw m c A rest _ h; have := g.bulk_eq; omega
  | succ n ih =>
  intro g w0 w gw m c A rest hcn hbk hn hB hgw hbw hm hmc hmb hC
  subst hm
  have hbq := g.bulk_eq
  have HC := Aside0.mk hC
  have HW := Aside0.mk hbw
  have HB := Aside0.mk hB
  have HCN := Aside0.mk hcn
  have IH := Aside0.mk ih
  have HGW := Aside0.mk hgw
  clear hC hB hcn ih hgw
  have hu := Tryd.underlying26
  have hun := Tryd.underlying54
  have hug := Tryd.underlying84
  have hmx : Tryd.prog.follows .mixedOrders = true := by kernel_rfl
  have hfl : (flatN g ++ rest).length = ((g.f3.map flatN).flatten ++ rest).length + 1 := by rw [flatN_eq]; simp
  obtain ⟨a1, S1, s1, L1, l1, e1, p0, p1, p2, i1, j1, i2, j2⟩ := at_Nd HC.out 0 (by omega) (by omega)
  subst e1
  have hx : rd_Nd (flatN g ++ rest) 0 = nodeOf g := by rw [flatN_eq]; rfl
  have ha : a1.add ((0 : Int).toNat * 3) = a1 := by cases a1; simp [Addr.add]
  rw [hx] at p0 p1 p2 i1 j1 i2 j2
  rw [ha] at p0 p1 p2
  have P0 := Aside0.mk (show w0.cell? a1 = some (.int .i64 g.f0) from p0)
  have P1 := Aside0.mk (show w0.cell? ⟨a1.block, a1.off + 1, none⟩ = some (.slice S1 (sizesOf g).length s1) from p1)
  have P2 := Aside0.mk (show w0.cell? ⟨a1.block, a1.off + 2, none⟩ = some (.slice L1 (lineOf g).length l1) from p2)
  have J1 := Aside0.mk (show Kd.C (Kd.int .i64) w0 S1 (sizesOf g).length (sizesOf g) from j1)
  have J2 := Aside0.mk (show Kd.C kPt w0 L1 (lineOf g).length (lineOf g) from j2)
  have I2 := Aside0.mk (show (lineOf g).length ≤ l1 from i2)
  obtain ⟨F, hF⟩ : ∃ F, F = flatN g ++ rest := ⟨_, rfl⟩
  obtain ⟨G, hG⟩ : ∃ G, G = (g.f3.map flatN).flatten ++ rest := ⟨_, rfl⟩
  have HD := Aside0.mk (show F.drop 1 = G by rw [hF, hG, flatN_eq]; rfl)
  rw [← hF, ← hG] at hfl
  rw [← hF] at HC HW hmc hmb hbw
  have HGE := Aside0.mk hG
  clear hx ha p0 p1 p2 i1 j1 i2 j2 hF hG
  have hgs : gw < w.heap.size := blk_lt hbw
  have hF1 : (0 : Int) < (F.length : Int) := by omega
  obtain ⟨gr, hgr⟩ : ∃ y, y = w.heap.size := ⟨_, rfl⟩
  have hbZ : Below w.heap.size w (w.alloc (.cells #[.int .i64 0, .slice none 0 0, .slice none 0 0, .slice none 0 0] 26)) := below_alloc (Below.refl _ _) _
  have q0 : (w.alloc (.cells #[.int .i64 0, .slice none 0 0, .slice none 0 0, .slice none 0 0] 26)).cell? ⟨gw, 0, none⟩ = some (.slice (some a1) F.length c) := (blk_cell (blk_alloc hbw _) 0).trans rfl
  have p0 := cell_below hbZ (cell_below HB.out P0.out)
  have p1 := cell_below hbZ (cell_below HB.out P1.out)
  have p2 := cell_below hbZ (cell_below HB.out P2.out)
  clear hgr gr
  go_enter Tryd.func40, Tryd.ntmps40
  go_upto_region 2 with fail
  obtain ⟨gr, hgr⟩ : ∃ y, y = w.heap.size := ⟨_, rfl⟩
  obtain ⟨gn, hgn⟩ : ∃ y, y = w.heap.size + 1 := ⟨_, rfl⟩
  obtain ⟨W1, hW1⟩ : ∃ y, y = (w.alloc (.cells #[.int .i64 0, .slice none 0 0, .slice none 0 0, .slice none 0 0] 26)).alloc (.cells #[.int .i64 g.f0, .slice S1 (sizesOf g).length s1, .slice L1 (lineOf g).length l1] 54) := ⟨_, rfl⟩
  rw [← hW1, ← hgn, ← hgr]
  have kr : W1.heap[gr]? = some (.cells #[.int .i64 0, .slice none 0 0, .slice none 0 0, .slice none 0 0] 26 (0, 0)) := by rw [hW1, hgr]; exact blk_alloc (World.alloc_heap_new _ _) _
  have kn : W1.heap[gn]? = some (.cells #[.int .i64 g.f0, .slice S1 (sizesOf g).length s1, .slice L1 (lineOf g).length l1] 54 (0, 0)) := by
    rw [hW1, hgn]
    have h := World.alloc_heap_new (w.alloc (.cells #[.int .i64 0, .slice none 0 0, .slice none 0 0, .slice none 0 0] 26)) (.cells #[.int .i64 g.f0, .slice S1 (sizesOf g).length s1, .slice L1 (lineOf g).length l1] 54)
    simpa using h
  have kw : W1.heap[gw]? = some (.cells #[.slice (some a1) F.length c] 84 (0, 0)) := by rw [hW1]; exact blk_alloc (blk_alloc hbw _) _
  have hb1 : Below w.heap.size w W1 := by rw [hW1]; exact below_alloc hbZ _
  have hord : gw < gr ∧ gr < gn ∧ gn < W1.heap.size := by
    have := blk_lt kn
    omega
  have HGR := Aside0.mk hgr
  clear hW1 hgn hgr q0 p0 p1 p2 hbZ
  have q0 : W1.cell? ⟨gw, 0, none⟩ = some (.slice (some a1) F.length c) := (blk_cell kw 0).trans rfl
  have q1 := blk_frozen kw 0
  have hs1 : (1 : Int) ≤ (F.length : Int) := by omega
  go_upto_region 3 with fail
  obtain ⟨AG, hAG⟩ : ∃ y, y = (if c = 1 then some a1 else some (⟨a1.block, a1.off + 3, none⟩ : Addr)) := ⟨_, rfl⟩
  rw [← hAG]
  have HCG := Aside0.mk (show Kd.C kNd w0 AG G.length G by
    rw [hAG]
    have h := Kd.C_drop (m := 1) (c := c) HC.out (by omega) hmc
    have e1 : kNd.sz = 3 := rfl
    have e2 : a1.add 3 = ⟨a1.block, a1.off + 3, none⟩ := by simp [Addr.add]
    rw [HD.out] at h
    simpa [e1, e2] using h)
  have hcG : G.length ≤ c - 1 := by omega
  obtain ⟨W2, hW2⟩ : ∃ y, y = W1.setCell ⟨gw, 0, none⟩ (.slice AG G.length (c - 1)) := ⟨_, rfl⟩
  rw [← hW2]
  have kn2 : W2.heap[gn]? = some (.cells #[.int .i64 g.f0, .slice S1 (sizesOf g).length s1, .slice L1 (lineOf g).length l1] 54 (0, 0)) := by rw [hW2]; exact blk_far (p := ⟨gw, 0, none⟩) kn (by show gn ≠ gw; omega) _
  have kr2 : W2.heap[gr]? = some (.cells #[.int .i64 0, .slice none 0 0, .slice none 0 0, .slice none 0 0] 26 (0, 0)) := by rw [hW2]; exact blk_far (p := ⟨gw, 0, none⟩) kr (by show gr ≠ gw; omega) _
  have kw2 : W2.heap[gw]? = some (.cells #[.slice AG G.length (c - 1)] 84 (0, 0)) := by rw [hW2]; simpa using blk_set kw 0 (.slice AG G.length (c - 1))
  have kb2 : KB gw w W2 := by rw [hW2]; exact (KB.below hb1).set (.inr rfl) _
  have B2 : Below w0.heap.size w0 W2 := by rw [hW2]; exact (below_step HB.out hb1).setCell (p := ⟨gw, 0, none⟩) HGW.out _
  clear hW2 hAG kn kr kw hb1 q0 q1 hs1 hF1
  have n0 : W2.cell? ⟨gn, 0, none⟩ = some (.int .i64 g.f0) := (blk_cell kn2 0).trans rfl
  go_upto_region 4 with fail
  obtain ⟨go_, hgo⟩ : ∃ y, y = W2.heap.size := ⟨_, rfl⟩
  obtain ⟨W3, hW3⟩ : ∃ y, y = W2.alloc (.cells #[.int .i64 g.f0, .slice none 0 0, .slice none 0 0, .slice none 0 0] 26) := ⟨_, rfl⟩
  rw [← hW3, ← hgo]
  have RX := Aside0.mk (show NX w0 w W3 gw gr gn go_ #[.int .i64 g.f0, .slice S1 (sizesOf g).length s1, .slice L1 (lineOf g).length l1] AG G.length (c - 1) g.f0 (.slice none 0 0) (.slice none 0 0) (.slice none 0 0) by
    have hb := below_alloc (Below.refl W2.heap.size W2) (.cells #[.int .i64 g.f0, .slice none 0 0, .slice none 0 0, .slice none 0 0] 26)
    rw [hW3, hgo]
    exact ⟨World.alloc_heap_new _ _, blk_alloc kr2 _, blk_alloc kn2 _, blk_alloc kw2 _, kb2.trans (KB.below hb), below_step B2 hb⟩)
  have HORD := Aside0.mk (show w.heap.size ≤ gr ∧ gw < gr ∧ gr < gn ∧ gn < go_ by have := HGR.out; have := blk_lt kn2; omega)
  have HSZ := Aside0.mk (show go_ < W3.heap.size from blk_lt RX.out.o)
  clear hW3 hgo kn2 kr2 kw2 kb2 B2 n0 HGR hord hgs
  have n0 : W3.cell? ⟨gn, 0, none⟩ = some (.int .i64 g.f0) := (blk_cell RX.out.n 0).trans rfl
  have hkk := HCN.out.at_.1
  have hll : (lineOf g).length ≤ 1073741824 := by
    have h : (lineOf g).length ≤ (own g).length := by unfold lineOf; split <;> (unfold own; rw [List.length_append]; omega)
    have := own_len g
    omega
  by_cases k1 : g.f0 = 1
  · have k1a : (g.f0 == 1) = true := beq_iff_eq.mpr k1
    have hk12 : g.f0 ≤ 2 := by omega
    clear k1
    have hs3 : W3.cell? ⟨gn, 2, none⟩ = some (.slice L1 (lineOf g).length l1) := (blk_cell RX.out.n 2).trans rfl
    skip
    go_wp2_with fail
    refine (copied_calls L1 l1 (lineOf g) W3 (Kd.C_below J2.out RX.out.B) (by omega)).mono ?_
    rintro e w4 ⟨v1, rfl, ho, hb4⟩
    obtain ⟨A4, c4, e4⟩ := Kd.R_slice ho
    subst e4
    have rx := RX.out.below hb4
    have hs1 : w4.cell? ⟨go_, 1, none⟩ = some (.slice none 0 0) := (blk_cell rx.o 1).trans rfl
    have hf1 := blk_frozen rx.o 1
    clear RX hs3
    go_upto_region 20 with fail
    obtain ⟨W5, hW5⟩ : ∃ y, y = w4.setCell ⟨go_, 1, none⟩ (.slice A4 (lineOf g).length c4) := ⟨_, rfl⟩
    rw [← hW5]
    have hl1 : lineOf g = g.f1 := lineOf_o (by omega)
    have RY := Aside0.mk (show NX w0 w W5 gw gr gn go_ #[.int .i64 g.f0, .slice S1 (sizesOf g).length s1, .slice L1 (lineOf g).length l1] AG G.length (c - 1) g.f0 (.slice A4 (lineOf g).length c4) (.slice none 0 0) (.slice none 0 0) by rw [hW5]; exact rx.set1 (by have := HORD.out; omega) (by have := HORD.out; have := HGW.out; omega) _)
    have HR := Aside0.mk (show Kd.R kPt 65 W5 w.heap.size (fun k => go_ < k) (.slice A4 (lineOf g).length c4) g.f1 by
      rw [hW5, ← hl1]
      have hz := HSZ.out
      exact Kd.R_far (p := ⟨go_, 1, none⟩) (Kd.R_lower (Kd.R_mono (Kd.R_bound ho) (fun k h => by have := h.2.1; omega)) (by have := HORD.out; omega)) (fun k h => by show k ≠ go_; omega) _)
    rw [hl1] at RY HR ⊢
    clear hW5 rx ho hb4 hs1 hf1 hl1
    have hf2 : g.f2 = [] := (HCN.out.at_.2.1 (by omega)).1
    have hf3 : g.f3 = [] := (HCN.out.at_.2.1 (by omega)).2
    have HF2 := Aside0.mk hf2
    have HF3 := Aside0.mk hf3
    have HGG : rest = G := by rw [HGE.out, HF3.out]; rfl
    subst HGG
    have HNS := Aside0.mk (show Kd.S (Kd.slice 65 kPt) 22 W5 w.heap.size (fun _ => False) (.slice none 0 0) g.f2 by rw [HF2.out]; exact Kd.S_nil _ _ _ _ _)
    have HNP := Aside0.mk (show Kd.S (kSp n) 26 W5 w.heap.size (fun _ => False) (.slice none 0 0) g.f3 by rw [HF3.out]; exact Kd.S_nil _ _ _ _ _)
    clear hf2 hf3
    have o0 : W5.cell? ⟨go_, 0, none⟩ = some (.int .i64 g.f0) := (blk_cell RY.out.o 0).trans rfl
    have o1 : W5.cell? ⟨go_, 1, none⟩ = some (.slice A4 g.f1.length c4) := (blk_cell RY.out.o 1).trans rfl
    have o2 : W5.cell? ⟨go_, 2, none⟩ = some (.slice none 0 0) := (blk_cell RY.out.o 2).trans rfl
    have o3 : W5.cell? ⟨go_, 3, none⟩ = some (.slice none 0 0) := (blk_cell RY.out.o 3).trans rfl
    have r0 : W5.cell? ⟨gr, 0, none⟩ = some (.int .i64 0) := (blk_cell RY.out.r 0).trans rfl
    have t0 := blk_frozen RY.out.r 0
    have r1 : W5.cell? ⟨gr, 1, none⟩ = some (.slice none 0 0) := (blk_cell RY.out.r 1).trans rfl
    have t1 := blk_frozen RY.out.r 1
    have r2 : W5.cell? ⟨gr, 2, none⟩ = some (.slice none 0 0) := (blk_cell RY.out.r 2).trans rfl
    have t2 := blk_frozen RY.out.r 2
    have r3 : W5.cell? ⟨gr, 3, none⟩ = some (.slice none 0 0) := (blk_cell RY.out.r 3).trans rfl
    have t3 := blk_frozen RY.out.r 3
    go_wp2_with fail
    have bk := (blk_set (blk_set (blk_set (blk_set RY.out.r 0 (.int .i64 g.f0)) 1 (.slice A4 g.f1.length c4)) 2 (.slice none 0 0)) 3 (.slice none 0 0))
    refine bodyPost_ret (results_geom (a := 2) (by rfl) _ _ (by rfl) (by simpa using bk)) rfl ?_
    obtain ⟨hwr, hord1, hord2, hord3⟩ := HORD.out
    have hwg : w0.heap.size ≤ gr := by have := HGW.out; omega
    refine ⟨_, rfl, ⟨[.int .i64 g.f0, .slice A4 g.f1.length c4, .slice none 0 0, .slice none 0 0], rfl, ?_⟩, AG, (c - 1), (blk_far (p := ⟨gr, 3, none⟩) (blk_far (p := ⟨gr, 2, none⟩) (blk_far (p := ⟨gr, 1, none⟩) (blk_far (p := ⟨gr, 0, none⟩) RY.out.x (by show gw ≠ gr; omega) _) (by show gw ≠ gr; omega) _) (by show gw ≠ gr; omega) _) (by show gw ≠ gr; omega) _), hcG, HCG.out, (KB.set (KB.set (KB.set (KB.set RY.out.K (b := gr) (j := 0) (.inl hwr) _) (b := gr) (j := 1) (.inl hwr) _) (b := gr) (j := 2) (.inl hwr) _) (b := gr) (j := 3) (.inl hwr) _), ((((RY.out.B.setCell (p := ⟨gr, 0, none⟩) hwg _).setCell (p := ⟨gr, 1, none⟩) hwg _).setCell (p := ⟨gr, 2, none⟩) hwg _).setCell (p := ⟨gr, 3, none⟩) hwg _)⟩
    rw [kSp_M]
    exact ⟨_, _, _, (fun k => go_ < k), (fun _ => False), (fun _ => False), rfl, fun k h => by omega, fun _ h => h.elim, fun _ h => h.elim, fun _ _ h => h, fun _ _ h => h, fun _ _ h => h, Kd.R_far (p := ⟨gr, 3, none⟩) (Kd.R_far (p := ⟨gr, 2, none⟩) (Kd.R_far (p := ⟨gr, 1, none⟩) (Kd.R_far (p := ⟨gr, 0, none⟩) HR.out (fun k h => by show k ≠ gr; omega) _) (fun k h => by show k ≠ gr; omega) _) (fun k h => by show k ≠ gr; omega) _) (fun k h => by show k ≠ gr; omega) _, Kd.S_far (p := ⟨gr, 3, none⟩) (Kd.S_far (p := ⟨gr, 2, none⟩) (Kd.S_far (p := ⟨gr, 1, none⟩) (Kd.S_far (p := ⟨gr, 0, none⟩) HNS.out (fun _ h => h.elim) _) (fun _ h => h.elim) _) (fun _ h => h.elim) _) (fun _ h => h.elim) _, Kd.S_far (p := ⟨gr, 3, none⟩) (Kd.S_far (p := ⟨gr, 2, none⟩) (Kd.S_far (p := ⟨gr, 1, none⟩) (Kd.S_far (p := ⟨gr, 0, none⟩) HNP.out (fun _ h => h.elim) _) (fun _ h => h.elim) _) (fun _ h => h.elim) _) (fun _ h => h.elim) _⟩
  · have k1a : (g.f0 == 1) = false := beq_eq_false_iff_ne.mpr k1
    by_cases k2 : g.f0 = 2
    · have k2a : (g.f0 == 2) = true := beq_iff_eq.mpr k2
      have hk12 : g.f0 ≤ 2 := by omega
      clear k2
      have hs3 : W3.cell? ⟨gn, 2, none⟩ = some (.slice L1 (lineOf g).length l1) := (blk_cell RX.out.n 2).trans rfl
      skip
      go_wp2_with fail
      refine (copied_calls L1 l1 (lineOf g) W3 (Kd.C_below J2.out RX.out.B) (by omega)).mono ?_
      rintro e w4 ⟨v1, rfl, ho, hb4⟩
      obtain ⟨A4, c4, e4⟩ := Kd.R_slice ho
      subst e4
      have rx := RX.out.below hb4
      have hs1 : w4.cell? ⟨go_, 1, none⟩ = some (.slice none 0 0) := (blk_cell rx.o 1).trans rfl
      have hf1 := blk_frozen rx.o 1
      clear RX hs3
      go_upto_region 20 with fail
      obtain ⟨W5, hW5⟩ : ∃ y, y = w4.setCell ⟨go_, 1, none⟩ (.slice A4 (lineOf g).length c4) := ⟨_, rfl⟩
      rw [← hW5]
      have hl1 : lineOf g = g.f1 := lineOf_o (by omega)
      have RY := Aside0.mk (show NX w0 w W5 gw gr gn go_ #[.int .i64 g.f0, .slice S1 (sizesOf g).length s1, .slice L1 (lineOf g).length l1] AG G.length (c - 1) g.f0 (.slice A4 (lineOf g).length c4) (.slice none 0 0) (.slice none 0 0) by rw [hW5]; exact rx.set1 (by have := HORD.out; omega) (by have := HORD.out; have := HGW.out; omega) _)
      have HR := Aside0.mk (show Kd.R kPt 65 W5 w.heap.size (fun k => go_ < k) (.slice A4 (lineOf g).length c4) g.f1 by
        rw [hW5, ← hl1]
        have hz := HSZ.out
        exact Kd.R_far (p := ⟨go_, 1, none⟩) (Kd.R_lower (Kd.R_mono (Kd.R_bound ho) (fun k h => by have := h.2.1; omega)) (by have := HORD.out; omega)) (fun k h => by show k ≠ go_; omega) _)
      rw [hl1] at RY HR ⊢
      clear hW5 rx ho hb4 hs1 hf1 hl1
      have hf2 : g.f2 = [] := (HCN.out.at_.2.1 (by omega)).1
      have hf3 : g.f3 = [] := (HCN.out.at_.2.1 (by omega)).2
      have HF2 := Aside0.mk hf2
      have HF3 := Aside0.mk hf3
      have HGG : rest = G := by rw [HGE.out, HF3.out]; rfl
      subst HGG
      have HNS := Aside0.mk (show Kd.S (Kd.slice 65 kPt) 22 W5 w.heap.size (fun _ => False) (.slice none 0 0) g.f2 by rw [HF2.out]; exact Kd.S_nil _ _ _ _ _)
      have HNP := Aside0.mk (show Kd.S (kSp n) 26 W5 w.heap.size (fun _ => False) (.slice none 0 0) g.f3 by rw [HF3.out]; exact Kd.S_nil _ _ _ _ _)
      clear hf2 hf3
      have o0 : W5.cell? ⟨go_, 0, none⟩ = some (.int .i64 g.f0) := (blk_cell RY.out.o 0).trans rfl
      have o1 : W5.cell? ⟨go_, 1, none⟩ = some (.slice A4 g.f1.length c4) := (blk_cell RY.out.o 1).trans rfl
      have o2 : W5.cell? ⟨go_, 2, none⟩ = some (.slice none 0 0) := (blk_cell RY.out.o 2).trans rfl
      have o3 : W5.cell? ⟨go_, 3, none⟩ = some (.slice none 0 0) := (blk_cell RY.out.o 3).trans rfl
      have r0 : W5.cell? ⟨gr, 0, none⟩ = some (.int .i64 0) := (blk_cell RY.out.r 0).trans rfl
      have t0 := blk_frozen RY.out.r 0
      have r1 : W5.cell? ⟨gr, 1, none⟩ = some (.slice none 0 0) := (blk_cell RY.out.r 1).trans rfl
      have t1 := blk_frozen RY.out.r 1
      have r2 : W5.cell? ⟨gr, 2, none⟩ = some (.slice none 0 0) := (blk_cell RY.out.r 2).trans rfl
      have t2 := blk_frozen RY.out.r 2
      have r3 : W5.cell? ⟨gr, 3, none⟩ = some (.slice none 0 0) := (blk_cell RY.out.r 3).trans rfl
      have t3 := blk_frozen RY.out.r 3
      go_wp2_with fail
      have bk := (blk_set (blk_set (blk_set (blk_set RY.out.r 0 (.int .i64 g.f0)) 1 (.slice A4 g.f1.length c4)) 2 (.slice none 0 0)) 3 (.slice none 0 0))
      refine bodyPost_ret (results_geom (a := 2) (by rfl) _ _ (by rfl) (by simpa using bk)) rfl ?_
      obtain ⟨hwr, hord1, hord2, hord3⟩ := HORD.out
      have hwg : w0.heap.size ≤ gr := by have := HGW.out; omega
      refine ⟨_, rfl, ⟨[.int .i64 g.f0, .slice A4 g.f1.length c4, .slice none 0 0, .slice none 0 0], rfl, ?_⟩, AG, (c - 1), (blk_far (p := ⟨gr, 3, none⟩) (blk_far (p := ⟨gr, 2, none⟩) (blk_far (p := ⟨gr, 1, none⟩) (blk_far (p := ⟨gr, 0, none⟩) RY.out.x (by show gw ≠ gr; omega) _) (by show gw ≠ gr; omega) _) (by show gw ≠ gr; omega) _) (by show gw ≠ gr; omega) _), hcG, HCG.out, (KB.set (KB.set (KB.set (KB.set RY.out.K (b := gr) (j := 0) (.inl hwr) _) (b := gr) (j := 1) (.inl hwr) _) (b := gr) (j := 2) (.inl hwr) _) (b := gr) (j := 3) (.inl hwr) _), ((((RY.out.B.setCell (p := ⟨gr, 0, none⟩) hwg _).setCell (p := ⟨gr, 1, none⟩) hwg _).setCell (p := ⟨gr, 2, none⟩) hwg _).setCell (p := ⟨gr, 3, none⟩) hwg _)⟩
      rw [kSp_M]
      exact ⟨_, _, _, (fun k => go_ < k), (fun _ => False), (fun _ => False), rfl, fun k h => by omega, fun _ h => h.elim, fun _ h => h.elim, fun _ _ h => h, fun _ _ h => h, fun _ _ h => h, Kd.R_far (p := ⟨gr, 3, none⟩) (Kd.R_far (p := ⟨gr, 2, none⟩) (Kd.R_far (p := ⟨gr, 1, none⟩) (Kd.R_far (p := ⟨gr, 0, none⟩) HR.out (fun k h => by show k ≠ gr; omega) _) (fun k h => by show k ≠ gr; omega) _) (fun k h => by show k ≠ gr; omega) _) (fun k h => by show k ≠ gr; omega) _, Kd.S_far (p := ⟨gr, 3, none⟩) (Kd.S_far (p := ⟨gr, 2, none⟩) (Kd.S_far (p := ⟨gr, 1, none⟩) (Kd.S_far (p := ⟨gr, 0, none⟩) HNS.out (fun _ h => h.elim) _) (fun _ h => h.elim) _) (fun _ h => h.elim) _) (fun _ h => h.elim) _, Kd.S_far (p := ⟨gr, 3, none⟩) (Kd.S_far (p := ⟨gr, 2, none⟩) (Kd.S_far (p := ⟨gr, 1, none⟩) (Kd.S_far (p := ⟨gr, 0, none⟩) HNP.out (fun _ h => h.elim) _) (fun _ h => h.elim) _) (fun _ h => h.elim) _) (fun _ h => h.elim) _⟩
    · have k2a : (g.f0 == 2) = false := beq_eq_false_iff_ne.mpr k2
      by_cases k3 : g.f0 = 3
      · have k3a : (g.f0 == 3) = true := beq_iff_eq.mpr k3
        have K3 := Aside0.mk k3
        clear k3
        have hsz := sizesOf_3 K3.out
        have hsl : (sizesOf g).length = g.f2.length := by rw [hsz, List.length_map]
        have HSZS := Aside0.mk hsz
        have hf2l : g.f2.length ≤ 1073741824 := by omega
        have n1 : W3.cell? ⟨gn, 1, none⟩ = some (.slice S1 (sizesOf g).length s1) := (blk_cell RX.out.n 1).trans rfl
        have n2 : W3.cell? ⟨gn, 2, none⟩ = some (.slice L1 (lineOf g).length l1) := (blk_cell RX.out.n 2).trans rfl
        have hln : (lineOf g).length = ((g.f2.drop 0).flatten).length := by
          rw [lineOf_3 K3.out]
          unfold own
          rw [(HCN.out.at_.2.2.1 K3.out).1]
          simp
        have HLN := Aside0.mk (show lineOf g = ((g.f2.drop 0).flatten) by
          rw [lineOf_3 K3.out]
          unfold own
          rw [(HCN.out.at_.2.2.1 K3.out).1]
          simp)
        clear hsz
        go_wp2_with fail
        go_loopg [5, 55] (sizesOf g).length (fun kq l i wr => ∃ (j : Nat) (v2 : Value) (Al : Option Addr) (cl : Nat), j + kq = (sizesOf g).length ∧ i = .int .i64 (j : Int) ∧ l = .slice Al ((g.f2.drop j).flatten).length cl ∧ Aside0 (((g.f2.drop j).flatten).length ≤ cl ∧ Kd.C kPt w0 Al ((g.f2.drop j).flatten).length ((g.f2.drop j).flatten)) ∧ Aside0 (NX w0 w wr gw gr gn go_ #[.int .i64 g.f0, .slice S1 (sizesOf g).length s1, .slice L1 (lineOf g).length l1] AG G.length (c - 1) g.f0 (.slice none 0 0) (v2) (.slice none 0 0)) ∧ Aside0 (Kd.S (Kd.slice 65 kPt) 22 wr w.heap.size (fun k => go_ < k) v2 (g.f2.take j)))
        case atStart => exact ⟨0, _, L1, l1, by omega, rfl, by simp, ⟨by rw [← hln]; exact I2.out, by rw [← HLN.out]; exact J2.out⟩, RX, ⟨Kd.S_nil _ _ _ _ _⟩⟩
        case round =>
          clear RX n1 n2 n0
          obtain ⟨j, v2, Al, cl, hj, rfl, rfl, HLC, RX, HS⟩ := hrel
          cases gk with
          | zero =>
            have hlt : ¬ ((j : Int) < ((sizesOf g).length : Int)) := by omega
            obtain rfl : j = g.f2.length := by omega
            rw [List.take_length] at HS
            go_upto_region 20 with fail
            obtain ⟨A4, c4, e4⟩ := Kd.S_slice HS.out
            subst e4
            have hf3 : g.f3 = [] := (HCN.out.at_.2.2.1 K3.out).2
            have HF1 := Aside0.mk (HCN.out.at_.2.2.1 K3.out).1
            have HNR := Aside0.mk (show Kd.R kPt 65 wr w.heap.size (fun _ => False) (.slice none 0 0) g.f1 by rw [HF1.out]; exact Kd.R_nil _ _ _ _ _)
            have HNP := Aside0.mk (show Kd.S (kSp n) 26 wr w.heap.size (fun _ => False) (.slice none 0 0) g.f3 by rw [hf3]; exact Kd.S_nil _ _ _ _ _)
            have HGG : rest = G := by rw [HGE.out, hf3]; rfl
            subst HGG
            clear hf3
            have o0 : wr.cell? ⟨go_, 0, none⟩ = some (.int .i64 g.f0) := (blk_cell RX.out.o 0).trans rfl
            have o1 : wr.cell? ⟨go_, 1, none⟩ = some (.slice none 0 0) := (blk_cell RX.out.o 1).trans rfl
            have o2 : wr.cell? ⟨go_, 2, none⟩ = some (.slice A4 g.f2.length c4) := (blk_cell RX.out.o 2).trans rfl
            have o3 : wr.cell? ⟨go_, 3, none⟩ = some (.slice none 0 0) := (blk_cell RX.out.o 3).trans rfl
            have r0 : wr.cell? ⟨gr, 0, none⟩ = some (.int .i64 0) := (blk_cell RX.out.r 0).trans rfl
            have t0 := blk_frozen RX.out.r 0
            have r1 : wr.cell? ⟨gr, 1, none⟩ = some (.slice none 0 0) := (blk_cell RX.out.r 1).trans rfl
            have t1 := blk_frozen RX.out.r 1
            have r2 : wr.cell? ⟨gr, 2, none⟩ = some (.slice none 0 0) := (blk_cell RX.out.r 2).trans rfl
            have t2 := blk_frozen RX.out.r 2
            have r3 : wr.cell? ⟨gr, 3, none⟩ = some (.slice none 0 0) := (blk_cell RX.out.r 3).trans rfl
            have t3 := blk_frozen RX.out.r 3
            go_wp2_with fail
            have bk := (blk_set (blk_set (blk_set (blk_set RX.out.r 0 (.int .i64 g.f0)) 1 (.slice none 0 0)) 2 (.slice A4 g.f2.length c4)) 3 (.slice none 0 0))
            refine bodyPost_ret (results_geom (a := 2) (by rfl) _ _ (by rfl) (by simpa using bk)) rfl ?_
            obtain ⟨hwr, hord1, hord2, hord3⟩ := HORD.out
            have hwg : w0.heap.size ≤ gr := by have := HGW.out; omega
            refine ⟨_, rfl, ⟨[.int .i64 g.f0, .slice none 0 0, .slice A4 g.f2.length c4, .slice none 0 0], rfl, ?_⟩, AG, (c - 1), (blk_far (p := ⟨gr, 3, none⟩) (blk_far (p := ⟨gr, 2, none⟩) (blk_far (p := ⟨gr, 1, none⟩) (blk_far (p := ⟨gr, 0, none⟩) RX.out.x (by show gw ≠ gr; omega) _) (by show gw ≠ gr; omega) _) (by show gw ≠ gr; omega) _) (by show gw ≠ gr; omega) _), hcG, HCG.out, (KB.set (KB.set (KB.set (KB.set RX.out.K (b := gr) (j := 0) (.inl hwr) _) (b := gr) (j := 1) (.inl hwr) _) (b := gr) (j := 2) (.inl hwr) _) (b := gr) (j := 3) (.inl hwr) _), ((((RX.out.B.setCell (p := ⟨gr, 0, none⟩) hwg _).setCell (p := ⟨gr, 1, none⟩) hwg _).setCell (p := ⟨gr, 2, none⟩) hwg _).setCell (p := ⟨gr, 3, none⟩) hwg _)⟩
            rw [kSp_M]
            exact ⟨_, _, _, (fun _ => False), (fun k => go_ < k), (fun _ => False), rfl, fun _ h => h.elim, fun k h => by omega, fun _ h => h.elim, fun _ h => h.elim, fun _ h => h.elim, fun _ _ h => h, Kd.R_far (p := ⟨gr, 3, none⟩) (Kd.R_far (p := ⟨gr, 2, none⟩) (Kd.R_far (p := ⟨gr, 1, none⟩) (Kd.R_far (p := ⟨gr, 0, none⟩) HNR.out (fun _ h => h.elim) _) (fun _ h => h.elim) _) (fun _ h => h.elim) _) (fun _ h => h.elim) _, Kd.S_far (p := ⟨gr, 3, none⟩) (Kd.S_far (p := ⟨gr, 2, none⟩) (Kd.S_far (p := ⟨gr, 1, none⟩) (Kd.S_far (p := ⟨gr, 0, none⟩) HS.out (fun k h => by show k ≠ gr; omega) _) (fun k h => by show k ≠ gr; omega) _) (fun k h => by show k ≠ gr; omega) _) (fun k h => by show k ≠ gr; omega) _, Kd.S_far (p := ⟨gr, 3, none⟩) (Kd.S_far (p := ⟨gr, 2, none⟩) (Kd.S_far (p := ⟨gr, 1, none⟩) (Kd.S_far (p := ⟨gr, 0, none⟩) HNP.out (fun _ h => h.elim) _) (fun _ h => h.elim) _) (fun _ h => h.elim) _) (fun _ h => h.elim) _⟩
          | succ kq =>
            have hj2 : j < g.f2.length := by omega
            have hlt : (j : Int) < ((sizesOf g).length : Int) := by omega
            have j0 : (0 : Int) ≤ (j : Int) := by omega
            obtain ⟨a2, e2, hx⟩ := at_I J1.out j rfl (by omega)
            subst e2
            have hv : (sizesOf g)[j]'(by omega) = ((g.f2[j].length : Nat) : Int) := by
              have h : (sizesOf g)[j]? = (g.f2.map fun r => (r.length : Int))[j]? := by rw [HSZS.out]
              rw [List.getElem?_eq_getElem (by omega), List.getElem?_map, List.getElem?_eq_getElem hj2] at h
              injection h
            rw [hv] at hx
            have hdr : ((g.f2.drop j).flatten) = g.f2[j] ++ (g.f2.drop (j + 1)).flatten := by rw [List.drop_eq_getElem_cons hj2, List.flatten_cons]
            have HRT := Aside0.mk (List.take_succ_eq_append_getElem hj2)
            obtain ⟨r, hr⟩ : ∃ r, r = g.f2[j] := ⟨_, rfl⟩
            obtain ⟨R2, hR2⟩ : ∃ r, r = (g.f2.drop (j + 1)).flatten := ⟨_, rfl⟩
            rw [← hr] at hx hdr HRT
            rw [← hR2] at hdr
            rw [hdr] at HLC ⊢
            rw [List.length_append] at HLC ⊢
            have HR2 := Aside0.mk hR2
            have hcl := HLC.out.1
            have hrl : r.length ≤ 1073741824 := by
              have h1 := upTo_le g.f2 (j + 1)
              rw [upTo_succ g.f2 j hj2, ← hr] at h1
              omega
            have hC1 := HLC.out.2
            rw [← List.length_append] at hC1
            have HRC := Aside0.mk (show Kd.C kPt w0 Al r.length r by
              have h := Kd.C_take (m := r.length) hC1 (by simp)
              rwa [List.take_left] at h)
            have HDC := Aside0.mk (show Kd.C kPt w0 (if cl = r.length then Al else Al.map (·.add (r.length * 2))) R2.length R2 by
              have h := Kd.C_drop (m := r.length) (c := cl) hC1 (by simp) (by rw [List.length_append]; exact hcl)
              rw [List.drop_left] at h
              exact h)
            have hcl2 : R2.length ≤ cl - r.length := by omega
            clear hdr hr hR2 hv hC1
            have hx' := cell_below RX.out.B hx
            have n1 : wr.cell? ⟨gn, 1, none⟩ = some (.slice (some a2) (sizesOf g).length s1) := (blk_cell RX.out.n 1).trans rfl
            have hr0 : (r.length : Int) ≤ (cl : Int) := by omega
            cases Al with
            | none =>
              have hz0 : r.length = 0 ∧ R2.length = 0 := by
                obtain ⟨_, _, h⟩ := HLC.out.2
                rcases Nat.eq_zero_or_pos (r.length + R2.length) with h0 | h0
                · omega
                · obtain ⟨ad, e, _⟩ := h h0; cases e
              have HZ0 := Aside0.mk hz0
              clear hz0
              go_wp2_with fail
              have q0 := RX.out.below (below_drew (Below.refl _ _))
              have s0 := Kd.S_drew HS.out
              have hszd : wr.drew.heap.size = wr.heap.size := rfl
              have hgz : go_ < wr.drew.heap.size := blk_lt q0.o
              refine start_ (n := 10) (S := fun w' => w'.cell? ⟨go_, 2, none⟩ = some v2 ∧ True) (ds := [9]) #[false, false, false, false, false, false, false, false, false, false] hmx rfl rfl ⟨(blk_cell q0.o 2).trans rfl, trivial⟩ (fun hHeld => ?_)
              clear RX HS hszd n1
              generalize wr.drew = Wb at q0 s0 hgz hHeld ⊢
              (refine pure_ (i := 0) (N := some 59) (v := ?_) (a' := ?_) #[true, false, false, false, false, false, false, false, false, false] rfl rfl (by kernel_rfl) (fun _ _ _ h => h) (Or.inl ⟨by rfl, ?_⟩) ?_ ?_; rotate_left; (focus (intro w'_; go_simp; with_reducible rfl)); rotate_left; (focus (simp only [Act.put, List.setIfInBounds_toArray, List.set_cons_zero, List.set_cons_succ]; rfl)))
              (refine pure_ (i := 2) (N := some 61) (v := ?_) (a' := ?_) #[true, false, true, false, false, false, false, false, false, false] rfl rfl (by kernel_rfl) (fun _ _ _ h => h) (Or.inl ⟨by rfl, ?_⟩) ?_ ?_; rotate_left; (focus (intro w'_; go_simp; with_reducible rfl)); rotate_left; (focus (simp only [Act.put, List.setIfInBounds_toArray, List.set_cons_zero, List.set_cons_succ]; rfl)))
              (refine pure_ (i := 3) (N := some 62) (v := ?_) (a' := ?_) #[true, false, true, true, false, false, false, false, false, false] rfl rfl (by kernel_rfl) (fun _ _ _ h => h) (Or.inl ⟨by rfl, ?_⟩) ?_ ?_; rotate_left; (focus (intro w'_; go_simp; with_reducible rfl)); rotate_left; (focus (simp only [Act.put, List.setIfInBounds_toArray, List.set_cons_zero, List.set_cons_succ]; rfl)))
              (refine take_ (i := 1) (N := some 60) (v := ?_) (a' := ?_) #[true, true, true, true, false, false, false, false, false, false] rfl rfl (by kernel_rfl) (fun _ _ _ h => h) (Or.inl ⟨by rfl, ?_⟩) hHeld ?_ ?_; rotate_left; (focus (intro w'_ hs_; (repeat obtain ⟨_, hs_⟩ := hs_); go_simp; with_reducible rfl)); rotate_left; (focus (simp only [Act.put, List.setIfInBounds_toArray, List.set_cons_zero, List.set_cons_succ]; rfl)))
              (refine pure_ (i := 4) (N := some 63) (v := ?_) (a' := ?_) #[true, true, true, true, true, false, false, false, false, false] rfl rfl (by kernel_rfl) (fun _ _ _ h => h) (Or.inl ⟨by rfl, ?_⟩) ?_ ?_; rotate_left; (focus (intro w'_; go_simp; with_reducible rfl)); rotate_left; (focus (simp only [Act.put, List.setIfInBounds_toArray, List.set_cons_zero, List.set_cons_succ]; rfl)))
              refine one_ (i := 5) (N := some 64) #[true, true, true, true, true, true, false, false, false, false] rfl rfl (by kernel_rfl) (by decide) (fun K hK => ?_)
              refine goes_ Tryd.func38 (by kernel_rfl) rfl #[.slice none r.length cl] (by rfl) rfl rfl (by (try simp only [List.map_toArray, List.map_cons, List.map_nil]); first | done | rfl) ?_
              refine (copied_calls none cl r Wb (Kd.C_below HRC.out q0.B) hrl).mono ?_
              rintro e w1 ⟨vr, rfl, ho, hb1⟩
              obtain ⟨A5, c5, e5⟩ := Kd.R_slice ho
              subst e5
              have nx1 := q0.below hb1
              have s1' := Kd.S_old s0 hb1
              have hvlt := Kd.S_lt s0
              have hz1 : Wb.heap.size ≤ w1.heap.size := hb1.size
              have hgrown := Kd.R_bound ho
              clear q0 s0
              refine ⟨_, rfl, hK.out _ _ ⟨(blk_cell nx1.o 2).trans rfl, trivial⟩ (fun hHeld2 => ?_)⟩
              clear hK K hHeld
              (refine norm_ (a' := ?_) ?_ ?_; rotate_left; focus (show Act.put _ (some 64) _ = _; simp only [Act.put, List.setIfInBounds_toArray, List.set_cons_zero, List.set_cons_succ]; rfl))
              refine one_ (i := 6) (N := some 65) #[true, true, true, true, true, true, true, false, false, false] rfl rfl (by kernel_rfl) (by decide) (fun K hK => ?_)
              (refine value_ (w1 := ?_) (v := ?_) (by rfl) rfl ?_ ?_; rotate_left 2; (focus (go_simp; constructor <;> rfl)))
              have nxa := nx1.below (below_alloc (Below.refl _ w1) (.cells #[.slice A5 r.length c5] 22))
              refine hK.out _ _ ⟨(blk_cell nxa.o 2).trans rfl, trivial⟩ (fun hHeld => ?_)
              clear hK K hHeld2 nxa
              (refine norm_ (a' := ?_) ?_ ?_; rotate_left; focus (show Act.put _ (some 65) _ = _; simp only [Act.put, List.setIfInBounds_toArray, List.set_cons_zero, List.set_cons_succ]; rfl))
              refine one_ (i := 7) (N := some 66) #[true, true, true, true, true, true, true, true, false, false] rfl rfl (by kernel_rfl) (by decide) (fun K hK => ?_)
              have hord := HORD.out
              have hgw := HGW.out
              refine Kd.S_append_step (Kd.slice 65 kPt) (w0 := w1) w.heap.size (by rfl) (.tmp 60) (.tmp 65) 23 22 (.slice none 0 0) 24 rfl Tryd.underlying23 infoPts rfl (by decide) (by omega) v2 (g.f2.take j) r [.slice A5 r.length c5] (fun k => go_ < k) (fun k => Wb.heap.size ≤ k) rfl rfl ?aP ?aK ?aF ?aO ?aB ?aS ?aL ?_
              case aP => exact Kd.M_row (Kd.R_lower (Kd.R_mono hgrown (fun k h => h.2.1)) (by omega))
              case aK => exact fun k h => ⟨by omega, fun e => by have := hvlt k e.symm; omega⟩
              case aF => exact fun k h => by omega
              case aO => exact Kd.S_mono s1' (fun k h => ⟨h.1, by have := h.2; show ¬ _ ≤ k; omega⟩)
              case aB => exact Below.refl _ _
              case aS => omega
              case aL => rw [List.length_take]; omega
              intro v3 w2 ho2 hb2 hg2 hat2
              obtain ⟨TT, hTT⟩ : ∃ TT, TT = List.take j g.f2 ++ [r] := ⟨_, rfl⟩
              rw [← hTT] at ho2
              have HTT := Aside0.mk (show TT = g.f2.take (j + 1) by rw [hTT, HRT.out])
              clear hTT
              obtain ⟨A6, c6, e6⟩ := Kd.S_slice ho2
              subst e6
              have hown : ∀ k, v2.ownBlock = some k → go_ < k := fun k e => (Kd.S_R s1').1 k e |>.1
              have nx2 := nx1.grown hord hg2 (nx1.B.trans (hb2.mono HB.out.size)) hown
              clear nx1 s1' hown hat2 hg2 hb2
              refine hK.out _ _ ⟨(blk_cell nx2.o 2).trans rfl, trivial⟩ (fun hHeld2 => ?_)
              clear hK K hHeld
              (refine norm_ (a' := ?_) ?_ ?_; rotate_left; focus (show Act.put _ (some 66) _ = _; simp only [Act.put, List.setIfInBounds_toArray, List.set_cons_zero, List.set_cons_succ]; rfl))
              (refine pure_ (i := 8) (N := some 67) (v := ?_) (a' := ?_) #[true, true, true, true, true, true, true, true, true, false] rfl rfl (by kernel_rfl) (fun _ _ _ h => h) (Or.inl ⟨by rfl, ?_⟩) ?_ ?_; rotate_left; (focus (intro w'_; go_simp; with_reducible rfl)); rotate_left; (focus (simp only [Act.put, List.setIfInBounds_toArray, List.set_cons_zero, List.set_cons_succ]; rfl)))
              refine last_ (i := 9) (N := none) #[true, true, true, true, true, true, true, true, true, true] rfl rfl (by kernel_rfl) (by decide) (fun K hK => ?_)
              have hs0 : w2.cell? ⟨go_, 2, none⟩ = some v2 := (blk_cell nx2.o 2).trans rfl
              have hf0 := blk_frozen nx2.o 2
              refine skip_ (w1 := ?_) (by rfl) rfl ?_ ?_
              rotate_left
              · go_simp
                rfl
              refine hK.out _ _ ?_
              clear hK K
              refine done_ (by kernel_rfl) ?_
              have nx3 := nx2.set2 hord (by omega) (.slice A6 TT.length c6)
              have s4 := Kd.S_set ho2 nx2.o (by decide) 2 (.slice A6 TT.length c6)
              obtain ⟨v4, hv4⟩ : ∃ v, v = Value.slice A6 TT.length c6 := ⟨_, rfl⟩
              rw [← hv4] at nx3 s4 ⊢
              obtain ⟨W6, hW6⟩ : ∃ y, y = w2.setCell ⟨go_, 2, none⟩ v4 := ⟨_, rfl⟩
              rw [← hW6] at nx3 s4 ⊢
              have RX := Aside0.mk nx3
              have HS := Aside0.mk (show Kd.S (Kd.slice 65 kPt) 22 W6 w.heap.size (fun k => go_ < k) v4 (g.f2.take (j + 1)) by rw [← HTT.out]; exact s4)
              clear hv4 hW6 nx2 nx3 s4 ho2 hs0 hf0 hHeld2 hord hgw
              have hr0 : (0 : Int) ≤ (r.length : Int) := by omega
              have hr1 : (r.length : Int) ≤ (r.length : Int) + (R2.length : Int) := by omega
              by_cases hcr : cl = r.length
              · have hd := HDC.out
                rw [if_pos hcr] at hd
                have HD2 := Aside0.mk hd
                have HCR := Aside0.mk hcr
                clear hd
                go_wp2_with fail
                go_roundg kq
                case measure => omega
                case rel => exact ⟨j + 1, v4, none, cl - r.length, by omega, by go_num, by (simp [HR2.out]; have := HCR.out; omega), ⟨by rw [← HR2.out]; omega, by rw [← HR2.out]; exact HD2.out⟩, RX, HS⟩
              · have hd := HDC.out
                rw [if_neg hcr] at hd
                have HD2 := Aside0.mk hd
                clear hd
                go_wp2_with fail
                go_roundg kq
                case measure => omega
                case rel => exact ⟨j + 1, v4, none, cl - r.length, by omega, by go_num, by (simp [HR2.out]; done), ⟨by rw [← HR2.out]; omega, by rw [← HR2.out]; exact HD2.out⟩, RX, HS⟩
            | some al =>
              go_wp2_with fail
              have q0 := RX.out.below (below_drew (Below.refl _ _))
              have s0 := Kd.S_drew HS.out
              have hszd : wr.drew.heap.size = wr.heap.size := rfl
              have hgz : go_ < wr.drew.heap.size := blk_lt q0.o
              refine start_ (n := 10) (S := fun w' => w'.cell? ⟨go_, 2, none⟩ = some v2 ∧ True) (ds := [9]) #[false, false, false, false, false, false, false, false, false, false] hmx rfl rfl ⟨(blk_cell q0.o 2).trans rfl, trivial⟩ (fun hHeld => ?_)
              clear RX HS hszd n1
              generalize wr.drew = Wb at q0 s0 hgz hHeld ⊢
              (refine pure_ (i := 0) (N := some 59) (v := ?_) (a' := ?_) #[true, false, false, false, false, false, false, false, false, false] rfl rfl (by kernel_rfl) (fun _ _ _ h => h) (Or.inl ⟨by rfl, ?_⟩) ?_ ?_; rotate_left; (focus (intro w'_; go_simp; with_reducible rfl)); rotate_left; (focus (simp only [Act.put, List.setIfInBounds_toArray, List.set_cons_zero, List.set_cons_succ]; rfl)))
              (refine pure_ (i := 2) (N := some 61) (v := ?_) (a' := ?_) #[true, false, true, false, false, false, false, false, false, false] rfl rfl (by kernel_rfl) (fun _ _ _ h => h) (Or.inl ⟨by rfl, ?_⟩) ?_ ?_; rotate_left; (focus (intro w'_; go_simp; with_reducible rfl)); rotate_left; (focus (simp only [Act.put, List.setIfInBounds_toArray, List.set_cons_zero, List.set_cons_succ]; rfl)))
              (refine pure_ (i := 3) (N := some 62) (v := ?_) (a' := ?_) #[true, false, true, true, false, false, false, false, false, false] rfl rfl (by kernel_rfl) (fun _ _ _ h => h) (Or.inl ⟨by rfl, ?_⟩) ?_ ?_; rotate_left; (focus (intro w'_; go_simp; with_reducible rfl)); rotate_left; (focus (simp only [Act.put, List.setIfInBounds_toArray, List.set_cons_zero, List.set_cons_succ]; rfl)))
              (refine take_ (i := 1) (N := some 60) (v := ?_) (a' := ?_) #[true, true, true, true, false, false, false, false, false, false] rfl rfl (by kernel_rfl) (fun _ _ _ h => h) (Or.inl ⟨by rfl, ?_⟩) hHeld ?_ ?_; rotate_left; (focus (intro w'_ hs_; (repeat obtain ⟨_, hs_⟩ := hs_); go_simp; with_reducible rfl)); rotate_left; (focus (simp only [Act.put, List.setIfInBounds_toArray, List.set_cons_zero, List.set_cons_succ]; rfl)))
              (refine pure_ (i := 4) (N := some 63) (v := ?_) (a' := ?_) #[true, true, true, true, true, false, false, false, false, false] rfl rfl (by kernel_rfl) (fun _ _ _ h => h) (Or.inl ⟨by rfl, ?_⟩) ?_ ?_; rotate_left; (focus (intro w'_; go_simp; with_reducible rfl)); rotate_left; (focus (simp only [Act.put, List.setIfInBounds_toArray, List.set_cons_zero, List.set_cons_succ]; rfl)))
              refine one_ (i := 5) (N := some 64) #[true, true, true, true, true, true, false, false, false, false] rfl rfl (by kernel_rfl) (by decide) (fun K hK => ?_)
              refine goes_ Tryd.func38 (by kernel_rfl) rfl #[.slice (some al) r.length cl] (by rfl) rfl rfl (by (try simp only [List.map_toArray, List.map_cons, List.map_nil]); first | done | rfl) ?_
              refine (copied_calls (some al) cl r Wb (Kd.C_below HRC.out q0.B) hrl).mono ?_
              rintro e w1 ⟨vr, rfl, ho, hb1⟩
              obtain ⟨A5, c5, e5⟩ := Kd.R_slice ho
              subst e5
              have nx1 := q0.below hb1
              have s1' := Kd.S_old s0 hb1
              have hvlt := Kd.S_lt s0
              have hz1 : Wb.heap.size ≤ w1.heap.size := hb1.size
              have hgrown := Kd.R_bound ho
              clear q0 s0
              refine ⟨_, rfl, hK.out _ _ ⟨(blk_cell nx1.o 2).trans rfl, trivial⟩ (fun hHeld2 => ?_)⟩
              clear hK K hHeld
              (refine norm_ (a' := ?_) ?_ ?_; rotate_left; focus (show Act.put _ (some 64) _ = _; simp only [Act.put, List.setIfInBounds_toArray, List.set_cons_zero, List.set_cons_succ]; rfl))
              refine one_ (i := 6) (N := some 65) #[true, true, true, true, true, true, true, false, false, false] rfl rfl (by kernel_rfl) (by decide) (fun K hK => ?_)
              (refine value_ (w1 := ?_) (v := ?_) (by rfl) rfl ?_ ?_; rotate_left 2; (focus (go_simp; constructor <;> rfl)))
              have nxa := nx1.below (below_alloc (Below.refl _ w1) (.cells #[.slice A5 r.length c5] 22))
              refine hK.out _ _ ⟨(blk_cell nxa.o 2).trans rfl, trivial⟩ (fun hHeld => ?_)
              clear hK K hHeld2 nxa
              (refine norm_ (a' := ?_) ?_ ?_; rotate_left; focus (show Act.put _ (some 65) _ = _; simp only [Act.put, List.setIfInBounds_toArray, List.set_cons_zero, List.set_cons_succ]; rfl))
              refine one_ (i := 7) (N := some 66) #[true, true, true, true, true, true, true, true, false, false] rfl rfl (by kernel_rfl) (by decide) (fun K hK => ?_)
              have hord := HORD.out
              have hgw := HGW.out
              refine Kd.S_append_step (Kd.slice 65 kPt) (w0 := w1) w.heap.size (by rfl) (.tmp 60) (.tmp 65) 23 22 (.slice none 0 0) 24 rfl Tryd.underlying23 infoPts rfl (by decide) (by omega) v2 (g.f2.take j) r [.slice A5 r.length c5] (fun k => go_ < k) (fun k => Wb.heap.size ≤ k) rfl rfl ?aP ?aK ?aF ?aO ?aB ?aS ?aL ?_
              case aP => exact Kd.M_row (Kd.R_lower (Kd.R_mono hgrown (fun k h => h.2.1)) (by omega))
              case aK => exact fun k h => ⟨by omega, fun e => by have := hvlt k e.symm; omega⟩
              case aF => exact fun k h => by omega
              case aO => exact Kd.S_mono s1' (fun k h => ⟨h.1, by have := h.2; show ¬ _ ≤ k; omega⟩)
              case aB => exact Below.refl _ _
              case aS => omega
              case aL => rw [List.length_take]; omega
              intro v3 w2 ho2 hb2 hg2 hat2
              obtain ⟨TT, hTT⟩ : ∃ TT, TT = List.take j g.f2 ++ [r] := ⟨_, rfl⟩
              rw [← hTT] at ho2
              have HTT := Aside0.mk (show TT = g.f2.take (j + 1) by rw [hTT, HRT.out])
              clear hTT
              obtain ⟨A6, c6, e6⟩ := Kd.S_slice ho2
              subst e6
              have hown : ∀ k, v2.ownBlock = some k → go_ < k := fun k e => (Kd.S_R s1').1 k e |>.1
              have nx2 := nx1.grown hord hg2 (nx1.B.trans (hb2.mono HB.out.size)) hown
              clear nx1 s1' hown hat2 hg2 hb2
              refine hK.out _ _ ⟨(blk_cell nx2.o 2).trans rfl, trivial⟩ (fun hHeld2 => ?_)
              clear hK K hHeld
              (refine norm_ (a' := ?_) ?_ ?_; rotate_left; focus (show Act.put _ (some 66) _ = _; simp only [Act.put, List.setIfInBounds_toArray, List.set_cons_zero, List.set_cons_succ]; rfl))
              (refine pure_ (i := 8) (N := some 67) (v := ?_) (a' := ?_) #[true, true, true, true, true, true, true, true, true, false] rfl rfl (by kernel_rfl) (fun _ _ _ h => h) (Or.inl ⟨by rfl, ?_⟩) ?_ ?_; rotate_left; (focus (intro w'_; go_simp; with_reducible rfl)); rotate_left; (focus (simp only [Act.put, List.setIfInBounds_toArray, List.set_cons_zero, List.set_cons_succ]; rfl)))
              refine last_ (i := 9) (N := none) #[true, true, true, true, true, true, true, true, true, true] rfl rfl (by kernel_rfl) (by decide) (fun K hK => ?_)
              have hs0 : w2.cell? ⟨go_, 2, none⟩ = some v2 := (blk_cell nx2.o 2).trans rfl
              have hf0 := blk_frozen nx2.o 2
              refine skip_ (w1 := ?_) (by rfl) rfl ?_ ?_
              rotate_left
              · go_simp
                rfl
              refine hK.out _ _ ?_
              clear hK K
              refine done_ (by kernel_rfl) ?_
              have nx3 := nx2.set2 hord (by omega) (.slice A6 TT.length c6)
              have s4 := Kd.S_set ho2 nx2.o (by decide) 2 (.slice A6 TT.length c6)
              obtain ⟨v4, hv4⟩ : ∃ v, v = Value.slice A6 TT.length c6 := ⟨_, rfl⟩
              rw [← hv4] at nx3 s4 ⊢
              obtain ⟨W6, hW6⟩ : ∃ y, y = w2.setCell ⟨go_, 2, none⟩ v4 := ⟨_, rfl⟩
              rw [← hW6] at nx3 s4 ⊢
              have RX := Aside0.mk nx3
              have HS := Aside0.mk (show Kd.S (Kd.slice 65 kPt) 22 W6 w.heap.size (fun k => go_ < k) v4 (g.f2.take (j + 1)) by rw [← HTT.out]; exact s4)
              clear hv4 hW6 nx2 nx3 s4 ho2 hs0 hf0 hHeld2 hord hgw
              have hr0 : (0 : Int) ≤ (r.length : Int) := by omega
              have hr1 : (r.length : Int) ≤ (r.length : Int) + (R2.length : Int) := by omega
              by_cases hcr : cl = r.length
              · have hd := HDC.out
                rw [if_pos hcr] at hd
                have HD2 := Aside0.mk hd
                have HCR := Aside0.mk hcr
                clear hd
                go_wp2_with fail
                go_roundg kq
                case measure => omega
                case rel => exact ⟨j + 1, v4, (some al), cl - r.length, by omega, by go_num, by (simp [HR2.out]; have := HCR.out; omega), ⟨by rw [← HR2.out]; omega, by rw [← HR2.out]; exact HD2.out⟩, RX, HS⟩
              · have hd := HDC.out
                rw [if_neg hcr] at hd
                have HD2 := Aside0.mk hd
                clear hd
                go_wp2_with fail
                go_roundg kq
                case measure => omega
                case rel => exact ⟨j + 1, v4, some (al.add (r.length * 2)), cl - r.length, by omega, by go_num, by (simp [HR2.out]; done), ⟨by rw [← HR2.out]; omega, by rw [← HR2.out]; exact HD2.out⟩, RX, HS⟩
      · have k3a : (g.f0 == 3) = false := beq_eq_false_iff_ne.mpr k3
        have HS4 := Aside0.mk (show sizesOf g = [(g.f3.length : Int)] from sizesOf_4 (by omega) (by omega) k3)
        have HK4 := Aside0.mk (show 3 < g.f0 by omega)
        have hf3l : g.f3.length ≤ 1073741824 := by have := bulks_len g.f3; omega
        have n1 : W3.cell? ⟨gn, 1, none⟩ = some (.slice S1 (sizesOf g).length s1) := (blk_cell RX.out.n 1).trans rfl
        have hsl : (sizesOf g).length = 1 := by rw [HS4.out]; rfl
        obtain ⟨a2, e2, hx⟩ := at_I J1.out 0 rfl (by omega)
        subst e2
        have hx' : W3.cell? a2 = some (.int .i64 (g.f3.length : Int)) := by
          have e : a2.add 0 = a2 := by cases a2; simp [Addr.add]
          have hv : (sizesOf g)[0]'(by omega) = (g.f3.length : Int) := by simp [HS4.out]
          rw [e, hv] at hx
          exact cell_below RX.out.B hx
        clear hx k3
        go_wp2_with fail
        go_loopg [31] g.f3.length (fun kq i wr => ∃ (j : Nat) (v3 : Value) (A' : Option Addr) (c' : Nat), j + kq = g.f3.length ∧ i = .int .i64 (j : Int) ∧ Aside0 ((((g.f3.drop j).map flatN).flatten ++ rest).length ≤ c' ∧ (((g.f3.drop j).map flatN).flatten ++ rest).length ≤ 1073741824 ∧ Kd.C kNd w0 A' (((g.f3.drop j).map flatN).flatten ++ rest).length (((g.f3.drop j).map flatN).flatten ++ rest)) ∧ Aside0 (NX w0 w wr gw gr gn go_ #[.int .i64 g.f0, .slice (some a2) (sizesOf g).length s1, .slice L1 (lineOf g).length l1] A' (((g.f3.drop j).map flatN).flatten ++ rest).length c' g.f0 (.slice none 0 0) (.slice none 0 0) (v3)) ∧ Aside0 (Kd.S (kSp n) 26 wr w.heap.size (fun k => go_ < k) v3 (g.f3.take j)))
        case atStart => exact ⟨0, _, AG, c - 1, by omega, rfl, ⟨by rw [List.drop_zero, ← HGE.out]; exact hcG, by rw [List.drop_zero, ← HGE.out]; omega, by rw [List.drop_zero, ← HGE.out]; exact HCG.out⟩, ⟨by rw [List.drop_zero, ← HGE.out]; exact RX.out⟩, ⟨Kd.S_nil _ _ _ _ _⟩⟩
        case round =>
          clear RX n1 n0 hx'
          obtain ⟨j, v3, A', c', hj, rfl, HRL, RX, HS⟩ := hrel
          cases gk with
          | zero =>
            have hlt : ¬ ((j : Int) < (g.f3.length : Int)) := by omega
            obtain rfl : j = g.f3.length := by omega
            rw [List.take_length] at HS
            have e0 : ((g.f3.drop g.f3.length).map flatN).flatten ++ rest = rest := by rw [List.drop_length]; rfl
            rw [e0] at HRL RX
            clear e0
            go_upto_region 20 with fail
            obtain ⟨A4, c4, e4⟩ := Kd.S_slice HS.out
            subst e4
            have HC4 := Aside0.mk (HCN.out.at_.2.2.2 HK4.out)
            have HNR := Aside0.mk (show Kd.R kPt 65 wr w.heap.size (fun _ => False) (.slice none 0 0) g.f1 by rw [HC4.out.1]; exact Kd.R_nil _ _ _ _ _)
            have HNS := Aside0.mk (show Kd.S (Kd.slice 65 kPt) 22 wr w.heap.size (fun _ => False) (.slice none 0 0) g.f2 by rw [HC4.out.2]; exact Kd.S_nil _ _ _ _ _)
            have o0 : wr.cell? ⟨go_, 0, none⟩ = some (.int .i64 g.f0) := (blk_cell RX.out.o 0).trans rfl
            have o1 : wr.cell? ⟨go_, 1, none⟩ = some (.slice none 0 0) := (blk_cell RX.out.o 1).trans rfl
            have o2 : wr.cell? ⟨go_, 2, none⟩ = some (.slice none 0 0) := (blk_cell RX.out.o 2).trans rfl
            have o3 : wr.cell? ⟨go_, 3, none⟩ = some (.slice A4 g.f3.length c4) := (blk_cell RX.out.o 3).trans rfl
            have r0 : wr.cell? ⟨gr, 0, none⟩ = some (.int .i64 0) := (blk_cell RX.out.r 0).trans rfl
            have t0 := blk_frozen RX.out.r 0
            have r1 : wr.cell? ⟨gr, 1, none⟩ = some (.slice none 0 0) := (blk_cell RX.out.r 1).trans rfl
            have t1 := blk_frozen RX.out.r 1
            have r2 : wr.cell? ⟨gr, 2, none⟩ = some (.slice none 0 0) := (blk_cell RX.out.r 2).trans rfl
            have t2 := blk_frozen RX.out.r 2
            have r3 : wr.cell? ⟨gr, 3, none⟩ = some (.slice none 0 0) := (blk_cell RX.out.r 3).trans rfl
            have t3 := blk_frozen RX.out.r 3
            go_wp2_with fail
            have bk := (blk_set (blk_set (blk_set (blk_set RX.out.r 0 (.int .i64 g.f0)) 1 (.slice none 0 0)) 2 (.slice none 0 0)) 3 (.slice A4 g.f3.length c4))
            refine bodyPost_ret (results_geom (a := 2) (by rfl) _ _ (by rfl) (by simpa using bk)) rfl ?_
            obtain ⟨hwr, hord1, hord2, hord3⟩ := HORD.out
            have hwg : w0.heap.size ≤ gr := by have := HGW.out; omega
            refine ⟨_, rfl, ⟨[.int .i64 g.f0, .slice none 0 0, .slice none 0 0, .slice A4 g.f3.length c4], rfl, ?_⟩, A', c', (blk_far (p := ⟨gr, 3, none⟩) (blk_far (p := ⟨gr, 2, none⟩) (blk_far (p := ⟨gr, 1, none⟩) (blk_far (p := ⟨gr, 0, none⟩) RX.out.x (by show gw ≠ gr; omega) _) (by show gw ≠ gr; omega) _) (by show gw ≠ gr; omega) _) (by show gw ≠ gr; omega) _), HRL.out.1, HRL.out.2.2, (KB.set (KB.set (KB.set (KB.set RX.out.K (b := gr) (j := 0) (.inl hwr) _) (b := gr) (j := 1) (.inl hwr) _) (b := gr) (j := 2) (.inl hwr) _) (b := gr) (j := 3) (.inl hwr) _), ((((RX.out.B.setCell (p := ⟨gr, 0, none⟩) hwg _).setCell (p := ⟨gr, 1, none⟩) hwg _).setCell (p := ⟨gr, 2, none⟩) hwg _).setCell (p := ⟨gr, 3, none⟩) hwg _)⟩
            rw [kSp_M]
            exact ⟨_, _, _, (fun _ => False), (fun _ => False), (fun k => go_ < k), rfl, fun _ h => h.elim, fun _ h => h.elim, fun k h => by omega, fun _ h => h.elim, fun _ h => h.elim, fun _ h => h.elim, Kd.R_far (p := ⟨gr, 3, none⟩) (Kd.R_far (p := ⟨gr, 2, none⟩) (Kd.R_far (p := ⟨gr, 1, none⟩) (Kd.R_far (p := ⟨gr, 0, none⟩) HNR.out (fun _ h => h.elim) _) (fun _ h => h.elim) _) (fun _ h => h.elim) _) (fun _ h => h.elim) _, Kd.S_far (p := ⟨gr, 3, none⟩) (Kd.S_far (p := ⟨gr, 2, none⟩) (Kd.S_far (p := ⟨gr, 1, none⟩) (Kd.S_far (p := ⟨gr, 0, none⟩) HNS.out (fun _ h => h.elim) _) (fun _ h => h.elim) _) (fun _ h => h.elim) _) (fun _ h => h.elim) _, Kd.S_far (p := ⟨gr, 3, none⟩) (Kd.S_far (p := ⟨gr, 2, none⟩) (Kd.S_far (p := ⟨gr, 1, none⟩) (Kd.S_far (p := ⟨gr, 0, none⟩) HS.out (fun k h => by show k ≠ gr; omega) _) (fun k h => by show k ≠ gr; omega) _) (fun k h => by show k ≠ gr; omega) _) (fun k h => by show k ≠ gr; omega) _⟩
          | succ kq =>
            have hlt : j < g.f3.length := by omega
            have hlt' : (j : Int) < (g.f3.length : Int) := by omega
            have hpb : (g.f3[j]).bulk ≤ n := by have := bulks_mem (List.getElem_mem hlt); omega
            have HRE := Aside0.mk (show (((g.f3.drop j).map flatN).flatten ++ rest) = flatN g.f3[j] ++ (((g.f3.drop (j + 1)).map flatN).flatten ++ rest) by rw [List.drop_eq_getElem_cons hlt, List.map_cons, List.flatten_cons, List.append_assoc])
            have HPC := Aside0.mk (HCN.out.part (List.getElem_mem hlt))
            go_wp2_with fail
            have q0 := RX.out.below (below_drew (Below.refl _ _))
            have s0 := Kd.S_drew HS.out
            have hgz : go_ < wr.drew.heap.size := blk_lt q0.o
            refine start_ (n := 8) (S := fun w' => w'.cell? ⟨go_, 3, none⟩ = some v3 ∧ True) (ds := [7]) #[false, false, false, false, false, false, false, false] hmx rfl rfl ⟨(blk_cell q0.o 3).trans rfl, trivial⟩ (fun hHeld => ?_)
            clear RX HS
            generalize wr.drew = Wb at q0 s0 hgz hHeld ⊢
            (refine pure_ (i := 0) (N := some 33) (v := ?_) (a' := ?_) #[true, false, false, false, false, false, false, false] rfl rfl (by kernel_rfl) (fun _ _ _ h => h) (Or.inl ⟨by rfl, ?_⟩) ?_ ?_; rotate_left; (focus (intro w'_; go_simp; with_reducible rfl)); rotate_left; (focus (simp only [Act.put, List.setIfInBounds_toArray, List.set_cons_zero, List.set_cons_succ]; rfl)))
            (refine pure_ (i := 2) (N := some 35) (v := ?_) (a' := ?_) #[true, false, true, false, false, false, false, false] rfl rfl (by kernel_rfl) (fun _ _ _ h => h) (Or.inl ⟨by rfl, ?_⟩) ?_ ?_; rotate_left; (focus (intro w'_; go_simp; with_reducible rfl)); rotate_left; (focus (simp only [Act.put, List.setIfInBounds_toArray, List.set_cons_zero, List.set_cons_succ]; rfl)))
            (refine take_ (i := 1) (N := some 34) (v := ?_) (a' := ?_) #[true, true, true, false, false, false, false, false] rfl rfl (by kernel_rfl) (fun _ _ _ h => h) (Or.inl ⟨by rfl, ?_⟩) hHeld ?_ ?_; rotate_left; (focus (intro w'_ hs_; (repeat obtain ⟨_, hs_⟩ := hs_); go_simp; with_reducible rfl)); rotate_left; (focus (simp only [Act.put, List.setIfInBounds_toArray, List.set_cons_zero, List.set_cons_succ]; rfl)))
            refine one_ (i := 3) (N := some 36) #[true, true, true, true, false, false, false, false] rfl rfl (by kernel_rfl) (by decide) (fun K hK => ?_)
            refine goes_ Tryd.func40 (by kernel_rfl) rfl #[.pointer (some ⟨gw, 0, none⟩)] (by rfl) rfl rfl (by (try simp only [List.map_toArray, List.map_cons, List.map_nil]); first | done | rfl) ?_
            refine (IH.out g.f3[j] w0 Wb gw _ c' A' (((g.f3.drop (j + 1)).map flatN).flatten ++ rest) HPC.out hpb (by omega) q0.B HGW.out q0.x (by rw [HRE.out]) HRL.out.1 HRL.out.2.1 (by rw [← HRE.out]; exact HRL.out.2.2)).mono ?_
            rintro e w1 ⟨u, rfl, ⟨cs, rfl, hM⟩, A2, c2, hx2, hc2, hC2, hKB, hB1⟩
            obtain ⟨E1, e1, E2, e2, E3, e3, rfl, _⟩ := kGe_open (kSp_K n ((kSp n).K_of_M hM))
            have hord := HORD.out
            have hgw := HGW.out
            have nx1 : NX w0 w w1 gw gr gn go_ #[.int .i64 g.f0, .slice (some a2) (sizesOf g).length s1, .slice L1 (lineOf g).length l1] A2 (((g.f3.drop (j + 1)).map flatN).flatten ++ rest).length c2 g.f0 (.slice none 0 0) (.slice none 0 0) (v3) := ⟨blk_KB hKB q0.o (by omega), blk_KB hKB q0.r (by omega), blk_KB hKB q0.n (by omega), hx2, q0.K.trans hKB, hB1⟩
            have s1' := Kd.S_step s0 (fun k hk hlt => hKB.2 k hlt (by omega))
            have hvlt := Kd.S_lt s0
            have hz1 : Wb.heap.size ≤ w1.heap.size := hKB.1
            have s2' := Kd.S_mono (Kd.S_bound s0) (fun k h => (⟨h.1, h.2.2.1⟩ : go_ < k ∧ k < Wb.heap.size))
            have s3' := Kd.S_step s2' (fun k hk hlt => hKB.2 k hlt (by omega))
            have HLE := Aside0.mk (show (((g.f3.drop (j + 1)).map flatN).flatten ++ rest).length ≤ 1073741824 by have h := HRL.out.2.1; rw [HRE.out, List.length_append] at h; omega)
            clear q0 s0 s1' s2' hKB hx2 hB1
            refine ⟨_, rfl, hK.out _ _ ⟨(blk_cell nx1.o 3).trans rfl, trivial⟩ (fun hHeld2 => ?_)⟩
            clear hK K hHeld
            (refine norm_ (a' := ?_) ?_ ?_; rotate_left; focus (show Act.put _ (some 36) _ = _; simp only [Act.put, List.setIfInBounds_toArray, List.set_cons_zero, List.set_cons_succ]; rfl))
            refine one_ (i := 4) (N := some 37) #[true, true, true, true, true, false, false, false] rfl rfl (by kernel_rfl) (by decide) (fun K hK => ?_)
            (refine value_ (w1 := ?_) (v := ?_) (by rfl) rfl ?_ ?_; rotate_left 2; (focus (go_simp; constructor <;> rfl)))
            have nxa := nx1.below (below_alloc (Below.refl _ w1) (.cells #[.int .i64 (g.f3[j]).f0, .slice E1 (g.f3[j]).f1.length e1, .slice E2 (g.f3[j]).f2.length e2, .slice E3 (g.f3[j]).f3.length e3] 26))
            refine hK.out _ _ ⟨(blk_cell nxa.o 3).trans rfl, trivial⟩ (fun hHeld => ?_)
            clear hK K hHeld2 nxa
            (refine norm_ (a' := ?_) ?_ ?_; rotate_left; focus (show Act.put _ (some 37) _ = _; simp only [Act.put, List.setIfInBounds_toArray, List.set_cons_zero, List.set_cons_succ]; rfl))
            refine one_ (i := 5) (N := some 38) #[true, true, true, true, true, true, false, false] rfl rfl (by kernel_rfl) (by decide) (fun K hK => ?_)
            refine Kd.S_append_step (kSp n) (w0 := w1) w.heap.size (by rfl) (.tmp 34) (.tmp 37) 24 26 (.agg #[.int .i64 0, .slice none 0 0, .slice none 0 0, .slice none 0 0]) 80 rfl Tryd.underlying24 (by rw [kSp_sz]; exact infoGe) (by rw [kSp_sz]; rfl) (by rw [kSp_sz]; decide) (by omega) v3 (g.f3.take j) g.f3[j] [.int .i64 (g.f3[j]).f0, .slice E1 (g.f3[j]).f1.length e1, .slice E2 (g.f3[j]).f2.length e2, .slice E3 (g.f3[j]).f3.length e3] (fun k => go_ < k) (fun k => Wb.heap.size ≤ k) rfl rfl ?aP ?aK ?aF ?aO ?aB ?aS ?aL ?_
            case aP => exact (kSp n).M_lower (by omega) ((kSp n).M_mono (fun k h => h) hM)
            case aK => exact fun k h => ⟨by omega, fun e => by have := hvlt k e.symm; omega⟩
            case aF => exact fun k h => by omega
            case aO => exact Kd.S_mono s3' (fun k h => ⟨h.1, by have := h.2; show ¬ _ ≤ k; omega⟩)
            case aB => exact Below.refl _ _
            case aS => omega
            case aL => rw [List.length_take]; omega
            intro v4 w2 ho2 hb2 hg2 hat2
            obtain ⟨TT, hTT⟩ : ∃ TT, TT = List.take j g.f3 ++ [g.f3[j]] := ⟨_, rfl⟩
            rw [← hTT] at ho2
            have HTT := Aside0.mk (show TT = g.f3.take (j + 1) by rw [hTT, List.take_succ_eq_append_getElem hlt])
            clear hTT
            obtain ⟨A6, c6, e6⟩ := Kd.S_slice ho2
            subst e6
            have hown : ∀ k, v3.ownBlock = some k → go_ < k := fun k e => (Kd.S_R s3').1 k e |>.1
            have nx2 := nx1.grown hord hg2 (nx1.B.trans (hb2.mono HB.out.size)) hown
            clear nx1 s3' hown hat2 hg2 hb2 hM
            refine hK.out _ _ ⟨(blk_cell nx2.o 3).trans rfl, trivial⟩ (fun hHeld2 => ?_)
            clear hK K hHeld
            (refine norm_ (a' := ?_) ?_ ?_; rotate_left; focus (show Act.put _ (some 38) _ = _; simp only [Act.put, List.setIfInBounds_toArray, List.set_cons_zero, List.set_cons_succ]; rfl))
            (refine pure_ (i := 6) (N := some 39) (v := ?_) (a' := ?_) #[true, true, true, true, true, true, true, false] rfl rfl (by kernel_rfl) (fun _ _ _ h => h) (Or.inl ⟨by rfl, ?_⟩) ?_ ?_; rotate_left; (focus (intro w'_; go_simp; with_reducible rfl)); rotate_left; (focus (simp only [Act.put, List.setIfInBounds_toArray, List.set_cons_zero, List.set_cons_succ]; rfl)))
            refine last_ (i := 7) (N := none) #[true, true, true, true, true, true, true, true] rfl rfl (by kernel_rfl) (by decide) (fun K hK => ?_)
            have hs0 : w2.cell? ⟨go_, 3, none⟩ = some v3 := (blk_cell nx2.o 3).trans rfl
            have hf0 := blk_frozen nx2.o 3
            refine skip_ (w1 := ?_) (by rfl) rfl ?_ ?_
            rotate_left
            · go_simp
              rfl
            refine hK.out _ _ ?_
            clear hK K
            refine done_ (by kernel_rfl) ?_
            have nx3 := nx2.set3 hord (by omega) (.slice A6 TT.length c6)
            have s4 := Kd.S_far (p := ⟨go_, 3, none⟩) ho2 (fun k h => by show k ≠ go_; omega) (.slice A6 TT.length c6)
            obtain ⟨v5, hv5⟩ : ∃ v, v = Value.slice A6 TT.length c6 := ⟨_, rfl⟩
            rw [← hv5] at nx3 s4 ⊢
            obtain ⟨W6, hW6⟩ : ∃ y, y = w2.setCell ⟨go_, 3, none⟩ v5 := ⟨_, rfl⟩
            rw [← hW6] at nx3 s4 ⊢
            have RX := Aside0.mk nx3
            have HS := Aside0.mk (show Kd.S (kSp n) 26 W6 w.heap.size (fun k => go_ < k) v5 (g.f3.take (j + 1)) by rw [← HTT.out]; exact s4)
            have HCC := Aside0.mk hc2
            clear hv5 hW6 nx2 nx3 s4 ho2 hs0 hf0 hHeld2 hord hgw hc2
            have HC2 := Aside0.mk hC2
            clear hC2
            go_wp2_with fail
            go_roundg kq
            case measure => omega
            case rel => exact ⟨j + 1, v5, A2, c2, by omega, by go_num, ⟨HCC.out, HLE.out, HC2.out⟩, RX, HS⟩
end Go.Proofs.YtmcbniobbbjdjaaDoor.Tree
