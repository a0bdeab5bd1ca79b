/- Go functions as Lean functions and their contracts: each call comes to what the Lean function says; or a law's row out of them. No conditions. Written by this session's wip/hprint.py (the kit's print with contracts and repairs of my own). -/
import Derived.Test.YtenomaibgpbonaaDoorPOctetBackx0
namespace Go.Proofs.YtenomaibgpbonaaDoor.POctetBack
open Go.RowKit Go.Proofs.YtenomaibgpbonaaDoorW.PrintWords Go.Proofs.YtenomaibgpbonaaDoorW.PrintLast Go.Proofs.YtenomaibgpbonaaDoorW.PrintMore
attribute [local go_sem] max2_int min2_int max_two min_two max_three min_three max_four min_four   -- for this text's walks alone
set_option linter.unusedVariables false
set_option linter.unusedSimpArgs false

/-- A state of type 63 at block g of W; what its slices lead to came in by w0. -/
def IsS63 (w0 W : World) (g : Nat) (f0 : List Int) (f1 : Int) (f2 : Bool) : Prop := ∃ A0 c0, W.heap[g]? = some (.cells #[.slice A0 f0.length c0, .int .i64 f1, .bool f2] 63 (0, 0)) ∧ w0.heap.size ≤ g ∧ (Kd.C (Kd.int .u8) w0 A0 f0.length f0 ∧ f0.length ≤ c0)
theorem IsS63.grown {w0 W : World} {g : Nat} {f0 : List Int} {f1 : Int} {f2 : Bool} {W1 : World} {row : Option Nat} (h : IsS63 w0 W g f0 f1 f2) (hw : W.grownBy W1 row) (hne : some g ≠ row) : IsS63 w0 W1 g f0 f1 f2 := by
  obtain ⟨A0, c0, hb, hg, hr0⟩ := h
  exact ⟨A0, c0, blk_grown hb hw hne, hg, hr0⟩
theorem IsS63.own_neN {w0 W : World} {g : Nat} {f0 : List Int} {f1 : Int} {f2 : Bool} {α : Type} {d : Kd α} {e : Nat} {base : Nat} {ok : Nat → Prop} {v : Value} {xs : List α} (h : IsS63 w0 W g f0 f1 f2) (ho : Kd.N d e W base ok v xs) (ht : e ≠ 63) : some g ≠ v.ownBlock := by
  obtain ⟨A0, c0, hb, hg, hr0⟩ := h
  exact Kd.N_ne ho hb ht
theorem IsS63.fresh {w0 W : World} {g : Nat} {f0 : List Int} {f1 : Int} {f2 : Bool} (h : IsS63 w0 W g f0 f1 f2) : ∀ k, W.heap.size ≤ k → k ≠ g := by
  obtain ⟨A0, c0, hb, hg, hr0⟩ := h
  exact Kd.freshB hb
theorem IsS63.kept {w0 W : World} {g : Nat} {f0 : List Int} {f1 : Int} {f2 : Bool} {W1 : World} {S : Nat → Prop} (h : IsS63 w0 W g f0 f1 f2) (hk : Kept W W1 S) (hne : ¬ S g) : IsS63 w0 W1 g f0 f1 f2 := by
  obtain ⟨A0, c0, hb, hg, hr0⟩ := h
  exact ⟨A0, c0, blk_kept hb hk hne, hg, hr0⟩
theorem IsS63.below {w0 W : World} {g : Nat} {f0 : List Int} {f1 : Int} {f2 : Bool} {W1 : World} (h : IsS63 w0 W g f0 f1 f2) (hw : Below W.heap.size W W1) : IsS63 w0 W1 g f0 f1 f2 := h.grown (grown_of_below hw none) (by simp)
theorem IsS63.alloc {w0 W : World} {g : Nat} {f0 : List Int} {f1 : Int} {f2 : Bool} (h : IsS63 w0 W g f0 f1 f2) (o : Obj) : IsS63 w0 (W.alloc o) g f0 f1 f2 := h.below (below_alloc (Below.refl _ _) o)
theorem IsS63.drewN {w0 W : World} {g : Nat} {f0 : List Int} {f1 : Int} {f2 : Bool} (h : IsS63 w0 W g f0 f1 f2) (m : Nat) : IsS63 w0 (W.drewN m) g f0 f1 f2 := h
theorem IsS63.drew {w0 W : World} {g : Nat} {f0 : List Int} {f1 : Int} {f2 : Bool} (h : IsS63 w0 W g f0 f1 f2) : IsS63 w0 W.drew g f0 f1 f2 := h
theorem IsS63.at_ {w0 W : World} {g : Nat} {f0 : List Int} {f1 : Int} {f2 : Bool} {w' : World} {m : Nat} (hq : W.drewN m = w') (h : IsS63 w0 W g f0 f1 f2) : IsS63 w0 w' g f0 f1 f2 := by subst hq; exact IsS63.drewN h m
theorem IsS63.apart {w0 W : World} {g : Nat} {f0 : List Int} {f1 : Int} {f2 : Bool} {α : Type} {d : Kd α} {e : Nat} {base : Nat} {ok : Nat → Prop} {v : Value} {xs : List α} (h : IsS63 w0 W g f0 f1 f2) (ho : d.R e W base ok v xs) (ht : ∀ q, q ∈ e :: d.E → q ≠ 63) : d.R e W base (fun k => ok k ∧ k ≠ g) v xs := by
  obtain ⟨A0, c0, hb, hg, hr0⟩ := h
  exact Kd.R_types ho hb ht
theorem IsS63.own_ne {w0 W : World} {g : Nat} {f0 : List Int} {f1 : Int} {f2 : Bool} {α : Type} {d : Kd α} {e : Nat} {base : Nat} {ok : Nat → Prop} {v : Value} {xs : List α} (h : IsS63 w0 W g f0 f1 f2) (ho : d.R e W base ok v xs) (ht : e ≠ 63) : some g ≠ v.ownBlock := by
  obtain ⟨A0, c0, hb, hg, hr0⟩ := h
  exact Kd.R_ne ho hb ht
theorem IsS63.apartQ {w0 W : World} {g : Nat} {f0 : List Int} {f1 : Int} {f2 : Bool} {α : Type} {d : Kd α} {e : Nat} {base : Nat} {ok : Nat → Prop} {v : Value} {xs : List α} (h : IsS63 w0 W g f0 f1 f2) (ho : d.Q e W base ok v xs) (ht : ∀ q, q ∈ e :: d.E → q ≠ 63) : d.Q e W base (fun k => ok k ∧ k ≠ g) v xs := by
  obtain ⟨A0, c0, hb, hg, hr0⟩ := h
  exact Kd.Q_types ho hb ht
theorem IsS63.own_neQ {w0 W : World} {g : Nat} {f0 : List Int} {f1 : Int} {f2 : Bool} {α : Type} {d : Kd α} {e : Nat} {base : Nat} {ok : Nat → Prop} {v : Value} {xs : List α} (h : IsS63 w0 W g f0 f1 f2) (ho : d.Q e W base ok v xs) (ht : e ≠ 63) : some g ≠ v.ownBlock := by
  obtain ⟨A0, c0, hb, hg, hr0⟩ := h
  exact Kd.Q_ne ho hb ht
theorem IsS63.apartS {w0 W : World} {g : Nat} {f0 : List Int} {f1 : Int} {f2 : Bool} {α : Type} {d : Kd α} {e : Nat} {base : Nat} {ok : Nat → Prop} {v : Value} {xs : List α} (h : IsS63 w0 W g f0 f1 f2) (ho : d.S e W base ok v xs) (ht : ∀ q, q ∈ e :: d.E → q ≠ 63) : d.S e W base (fun k => ok k ∧ k ≠ g) v xs := by
  obtain ⟨A0, c0, hb, hg, hr0⟩ := h
  exact Kd.S_types ho hb ht
theorem IsS63.own_neS {w0 W : World} {g : Nat} {f0 : List Int} {f1 : Int} {f2 : Bool} {α : Type} {d : Kd α} {e : Nat} {base : Nat} {ok : Nat → Prop} {v : Value} {xs : List α} (h : IsS63 w0 W g f0 f1 f2) (ho : d.S e W base ok v xs) (ht : e ≠ 63) : some g ≠ v.ownBlock := by
  obtain ⟨A0, c0, hb, hg, hr0⟩ := h
  exact Kd.S_ne ho hb ht
theorem IsS63.lt {w0 W : World} {g : Nat} {f0 : List Int} {f1 : Int} {f2 : Bool} (h : IsS63 w0 W g f0 f1 f2) : g < W.heap.size := by
  obtain ⟨A0, c0, hb, hg, hr0⟩ := h
  exact blk_lt hb
theorem IsS63.ge {w0 W : World} {g : Nat} {f0 : List Int} {f1 : Int} {f2 : Bool} (h : IsS63 w0 W g f0 f1 f2) : w0.heap.size ≤ g := by
  obtain ⟨A0, c0, hb, hg, hr0⟩ := h
  exact hg
theorem IsS63.ne_blk {w0 W : World} {g : Nat} {f0 : List Int} {f1 : Int} {f2 : Bool} {a : Nat} {cs : Array Value} {t : TypeId} {fr : Nat × Nat} (h : IsS63 w0 W g f0 f1 f2) (hb2 : W.heap[a]? = some (.cells cs t fr)) (ht : t ≠ 63) : g ≠ a := by
  obtain ⟨A0, c0, hb, hg, hr0⟩ := h
  rintro rfl
  rw [hb] at hb2
  injection hb2 with hb2
  injection hb2 with _ ht2
  exact ht ht2.symm
theorem IsS63.far {w0 W : World} {g : Nat} {f0 : List Int} {f1 : Int} {f2 : Bool} {p : Addr} (h : IsS63 w0 W g f0 f1 f2) (hne : g ≠ p.block) (u : Value) : IsS63 w0 (W.setCell p u) g f0 f1 f2 := by
  obtain ⟨A0, c0, hb, hg, hr0⟩ := h
  exact ⟨A0, c0, blk_far hb hne u, hg, hr0⟩
theorem cellS63_0 {W : World} {g : Nat} {A0 : Option Addr} {c0 : Nat} {f0 : List Int} {f1 : Int} {f2 : Bool} (h : W.heap[g]? = some (.cells #[.slice A0 f0.length c0, .int .i64 f1, .bool f2] 63 (0, 0))) : W.cell? ⟨g, 0, none⟩ = some (.slice A0 f0.length c0) := (blk_cell h 0).trans rfl
theorem cellS63_1 {W : World} {g : Nat} {A0 : Option Addr} {c0 : Nat} {f0 : List Int} {f1 : Int} {f2 : Bool} (h : W.heap[g]? = some (.cells #[.slice A0 f0.length c0, .int .i64 f1, .bool f2] 63 (0, 0))) : W.cell? ⟨g, 1, none⟩ = some (.int .i64 f1) := (blk_cell h 1).trans rfl
theorem IsS63.set_1 {w0 W : World} {g : Nat} {f0 : List Int} {f1 : Int} {f2 : Bool} (h : IsS63 w0 W g f0 f1 f2) (x : Int) : IsS63 w0 (W.setCell ⟨g, 1, none⟩ (.int .i64 x)) g f0 x f2 := by
  obtain ⟨A0, c0, hb, hg, hr0⟩ := h
  exact ⟨A0, c0, by simpa using blk_set hb 1 (.int .i64 x), hg, hr0⟩
theorem cellS63_2 {W : World} {g : Nat} {A0 : Option Addr} {c0 : Nat} {f0 : List Int} {f1 : Int} {f2 : Bool} (h : W.heap[g]? = some (.cells #[.slice A0 f0.length c0, .int .i64 f1, .bool f2] 63 (0, 0))) : W.cell? ⟨g, 2, none⟩ = some (.bool f2) := (blk_cell h 2).trans rfl
theorem IsS63.set_2 {w0 W : World} {g : Nat} {f0 : List Int} {f1 : Int} {f2 : Bool} (h : IsS63 w0 W g f0 f1 f2) (x : Bool) : IsS63 w0 (W.setCell ⟨g, 2, none⟩ (.bool x)) g f0 f1 x := by
  obtain ⟨A0, c0, hb, hg, hr0⟩ := h
  exact ⟨A0, c0, by simpa using blk_set hb 2 (.bool x), hg, hr0⟩

/-! ### octet_NewReader: function 9, by hand -/
def octet_NewReader.f (l0 : List Int) : Option (List Int × Int × Bool) := if l0.length < 140737488355328 then some (l0, 0, false) else none
theorem newreader_info : (Tryd.prog.info? 5).map (fun i => (i.zero, i.size, i.bytes)) = some (some (.int .u8 0), 1, 1) := by kernel_rfl
/-- A reader: its bytes were made at some world behind w0, ahead of its own block. -/
def IsR (w0 W : World) (g : Nat) (f0 : List Int) (f1 : Int) (f2 : Bool) : Prop := ∃ w1, Below w0.heap.size w0 w1 ∧ Below w1.heap.size w1 W ∧ IsS63 w1 W g f0 f1 f2
set_option maxHeartbeats 8000000 in
set_option maxRecDepth 100000 in
theorem newreader_any (A0 : Option Addr) (c0 : Nat) (l0 : List Int) (w : World) (hr0 : Kd.C (Kd.int .u8) w A0 l0.length l0) (hc0 : l0.length ≤ c0) (hl : l0.length < 140737488355328) :
    Calls Tryd.prog 9 #[.slice A0 l0.length c0] w fun e w' => ∃ g_ : Nat, e = .returned (.pointer (some ⟨g_, 0, none⟩)) ∧ IsR w w' g_ l0 0 false ∧ Below w.heap.size w w' := by
  have hu63 := Tryd.underlying63
  have HR0 := Aside0.mk hr0
  have HC0 := Aside0.mk hc0
  have HB := Aside0.mk (Below.refl w.heap.size w)
  clear hr0 hc0
  obtain ⟨y101, hy101⟩ : ∃ y_ : List Int, y_ = (([] : List Int)) := ⟨_, rfl⟩
  have c2 : y101.length + l0.length < 140737488355328 := by rw [hy101]; simpa using hl
  have LMc2 := Aside0.mk c2
  clear c2
  have Ny101 := Aside0.mk hy101
  clear hy101
  obtain ⟨y104, hy104⟩ : ∃ y_ : List Int, y_ = (y101 ++ l0) := ⟨_, rfl⟩
  have Ny104 := Aside0.mk hy104
  clear hy104
  go_enter Tryd.func9, Tryd.ntmps9
  go_wp2_with (first | ((with_reducible refine gate_dst (N := 3) rfl ?_); refine Kd.R_lit (Kd.int .u8) _ 5 ?hg (N := 3) ?hd (xs := ([] : List Int)) (inner := []) (ok := fun _ => True) (okp := fun _ => True) ?hr ?hp (fun _ hk => hk) trivial (Below.refl _ _) (Nat.le_refl _) (by simp) ?_; (case hd => rfl); (case hg => rfl); (case hr => first | (go_simp; done) | (go_simp; rfl)); (case hp => exact (Reps.none _ _)); intro v102 w3 ho4 hb hg_ hnew_; clear hg_ hnew_; (first | rw [← Ny101.out] at ho4 | (simp only [Int.reduceToNat] at ho4; rw [← Ny101.out] at ho4)); have n0_ := Aside0.mk (Kd.R_lower ho4 (below_size (by repeat (first | (with_reducible first | exact HB.out | apply below_alloc | apply pw_below_drewN | apply below_drew1) | exact HB.out)))); have n1_ := Aside0.mk (below_step (by repeat (first | (with_reducible first | exact HB.out | apply below_alloc | apply pw_below_drewN | apply below_drew1) | exact HB.out)) hb); clear HB; have HO103 := n0_; have HB := n1_; clear n0_ n1_; clear hb ho4) | ((with_reducible refine gate_builtin (b := .append) (xs := #[.tmp 3, .tmp 4]) rfl ?_); at_builtin; refine Kd.R_append_rows (Kd.int .u8) (w0 := w) w.heap.size rfl (.tmp 3) (.tmp 4) 22 5 (.int .u8 0) 1 rfl Tryd.underlying22 newreader_info rfl (by decide) (by omega) v102 y101 l0 _ _ _ (fun _ => True) (fun _ => False) rfl rfl ?aO ?aR (fun _ _ h => h) (fun _ h => h.elim) ?aF ?aB ?aS ?aL ?_; (case aR => repeat (first | exact (Kd.C_below HR0.out HB.out) | (with_reducible refine Kd.C_alloc ?_ _) | (with_reducible refine Kd.C_drewN ?_ _) | (with_reducible refine Kd.C_drew ?_))); (case aB => exact (by repeat (first | (with_reducible first | exact HB.out | apply below_alloc | apply pw_below_drewN | apply below_drew1) | exact HB.out))); (case aF => exact (fun _ _ => trivial)); (case aO => exact (by (with_reducible repeat (first | apply Kd.R_alloc | apply Kd.R_drewN | apply Kd.R_drew)); exact HO103.out)); (case aS => exact (below_size (by repeat (first | (with_reducible first | exact HB.out | apply below_alloc | apply pw_below_drewN | apply below_drew1) | exact HB.out)))); (case aL => have := LMc2.out; omega); intro v105 w5 ho hb hg hat; rw [← Ny104.out] at ho; have n0_ := Aside0.mk (hb); have n1_ := Aside0.mk (ho); clear HB; clear HO103; have HB := n0_; have HO106 := n1_; clear n0_ n1_; clear ho hb hg hat; obtain ⟨Ao6, co6, eo6⟩ := Kd.R_slice HO106.out; subst eo6; have HC5 := Aside0.mk (Kd.R_reads' HO106.out); have HB5 := Aside0.mk HB.out) | ((with_reducible refine gate_dst (N := 7) rfl ?_); refine box_event ?hg (N := 7) ?hd (cs := #[.slice Ao6 y104.length co6, .int .i64 0, .bool false]) (t := 63) ?hr ?_; (case hd => rfl); (case hg => rfl); (case hr => first | (go_simp; done) | (go_simp; rfl)); intro gb107 hg w7 hbox hb; have HG5 := Aside0.mk hg; have HB57 := Aside0.mk hb; have n2_ := Aside0.mk (below_step HB.out hb); have n3_ := Aside0.mk hbox; clear HO106; clear HB; have HB := n2_; have BK107 := n3_; clear n2_ n3_; clear hb hbox hg))
  go_ret
  have ey : y104 = l0 := by rw [Ny104.out, Ny101.out]; rfl
  subst ey
  exact ⟨gb107, rfl, ⟨_, HB5.out, HB57.out, ⟨_, _, BK107.out, Nat.le_of_eq HG5.out.symm, HC5.out.2.2, HC5.out.2.1⟩⟩, HB.out⟩
theorem octet_NewReader.calls (A0 : Option Addr) (c0 : Nat) (l0 : List Int) (r1 : List Int) (r2 : Int) (r3 : Bool) (w0 w : World) (hB : Below w0.heap.size w0 w) (hr0 : Kd.C (Kd.int .u8) w A0 l0.length l0) (hc0 : l0.length ≤ c0) (h : octet_NewReader.f l0 = some (r1, r2, r3)) :
    Calls Tryd.prog 9 #[.slice A0 l0.length c0] w fun e w' => ∃ g_ : Nat, e = .returned (.pointer (some ⟨g_, 0, none⟩)) ∧ IsR w0 w' g_ r1 r2 r3 ∧ Below w0.heap.size w0 w' ∧ Below w.heap.size w w' := by
  unfold octet_NewReader.f at h
  by_cases c : l0.length < 140737488355328
  · rw [if_pos c] at h
    simp only [Option.some.injEq, Prod.mk.injEq] at h
    obtain ⟨rfl, rfl, rfl⟩ := h
    refine (newreader_any A0 c0 l0 w hr0 hc0 c).mono ?_
    rintro e w' ⟨g, he, ⟨w1, h1, h2, h3⟩, hb⟩
    exact ⟨g, he, ⟨w1, below_then hB hB.size h1, h2, h3⟩, below_then hB hB.size hb, hb⟩
  · rw [if_neg c] at h
    exact absurd h (by simp)
theorem IsR.below {w0 W : World} {g : Nat} {f0 : List Int} {f1 : Int} {f2 : Bool} {W1 : World} (h : IsR w0 W g f0 f1 f2) (hw : Below W.heap.size W W1) : IsR w0 W1 g f0 f1 f2 := by
  obtain ⟨w1, h1, h2, h3⟩ := h
  exact ⟨w1, h1, below_then h2 h2.size hw, h3.below hw⟩
theorem IsR.alloc {w0 W : World} {g : Nat} {f0 : List Int} {f1 : Int} {f2 : Bool} (h : IsR w0 W g f0 f1 f2) (o : Obj) : IsR w0 (W.alloc o) g f0 f1 f2 := h.below (below_alloc (Below.refl _ _) o)
theorem IsR.drewN {w0 W : World} {g : Nat} {f0 : List Int} {f1 : Int} {f2 : Bool} (h : IsR w0 W g f0 f1 f2) (m : Nat) : IsR w0 (W.drewN m) g f0 f1 f2 := h.below (pw_below_drewN (Below.refl _ _) m)
theorem IsR.drew {w0 W : World} {g : Nat} {f0 : List Int} {f1 : Int} {f2 : Bool} (h : IsR w0 W g f0 f1 f2) : IsR w0 W.drew g f0 f1 f2 := h.below (below_drew (Below.refl _ _))
theorem IsR.ge {w0 W : World} {g : Nat} {f0 : List Int} {f1 : Int} {f2 : Bool} (h : IsR w0 W g f0 f1 f2) : w0.heap.size ≤ g := by
  obtain ⟨w1, h1, h2, h3⟩ := h
  exact Nat.le_trans h1.size h3.ge
theorem IsR.lt {w0 W : World} {g : Nat} {f0 : List Int} {f1 : Int} {f2 : Bool} (h : IsR w0 W g f0 f1 f2) : g < W.heap.size := by
  obtain ⟨w1, h1, h2, h3⟩ := h
  exact h3.lt
theorem IsR.ne_blk {w0 W : World} {g : Nat} {f0 : List Int} {f1 : Int} {f2 : Bool} {a : Nat} {cs : Array Value} {t : TypeId} {fr : Nat × Nat} (h : IsR w0 W g f0 f1 f2) (hb2 : W.heap[a]? = some (.cells cs t fr)) (ht : t ≠ 63) : g ≠ a := by
  obtain ⟨w1, h1, h2, h3⟩ := h
  exact h3.ne_blk hb2 ht
theorem IsR.apart {w0 W : World} {g : Nat} {f0 : List Int} {f1 : Int} {f2 : Bool} {α : Type} {d : Kd α} {e : Nat} {base : Nat} {ok : Nat → Prop} {v : Value} {xs : List α} (h : IsR w0 W g f0 f1 f2) (ho : d.R e W base ok v xs) (ht : ∀ q, q ∈ e :: d.E → q ≠ 63) : d.R e W base (fun k => ok k ∧ k ≠ g) v xs := by
  obtain ⟨w1, h1, h2, h3⟩ := h
  exact h3.apart ho ht

/-! ### octet_Reader_At: function 13 -/
def octet_Reader_At.f (s0_0 : List Int) (s0_1 : Int) (s0_2 : Bool) : Option (Int × Int × Bool) := some (s0_1, s0_1, s0_2)
set_option maxHeartbeats 8000000 in
set_option maxRecDepth 100000 in
theorem octet_Reader_At.calls (g : Nat) (s0_0 : List Int) (s0_1 : Int) (s0_2 : Bool) (r1 : Int) (r2 : Int) (r3 : Bool) (w0 w : World) (hI : IsS63 w0 w g s0_0 s0_1 s0_2) (hB : Below w0.heap.size w0 w) (h : octet_Reader_At.f s0_0 s0_1 s0_2 = some (r1, r2, r3)) :
    Calls Tryd.prog 13 #[.pointer (some ⟨g, 0, none⟩)] w fun e w' => e = .returned (.int .i64 r1) ∧ IsS63 w0 w' g s0_0 r2 r3 ∧ Below w0.heap.size w0 w' ∧ KeepBut w w' g none := by
  have HI0 := Aside0.mk hI
  have HK := Aside0.mk (KeepBut.refl w g none)
  have HL := Aside0.mk hB.size
  clear hI
  have HW0 := Aside0.mk hB.size
  have HB := Aside0.mk hB
  clear hB
  have H : (some (s0_1, s0_1, s0_2)) = some (r1, r2, r3) := h
  clear h
  simp only [Option.some.injEq, Prod.mk.injEq] at H
  obtain ⟨rfl, rfl, rfl⟩ := H
  obtain ⟨ASz2_0, cSz2_0, HGz2, hgz2, HSz2_0⟩ := HI0.out
  have hcz2_0 := cellS63_0 HGz2
  have hcz2_1 := cellS63_1 HGz2
  have hcz2_2 := cellS63_2 HGz2
  have hfz2_1 := blk_frozen HGz2 1
  have hfz2_2 := blk_frozen HGz2 2
  clear HGz2 hgz2
  go_enter Tryd.func13, Tryd.ntmps13
  go_wp2
  go_ret
  exact ⟨by first | rfl | (simp [errW_none, errW_some] <;> rfl) | (simp [*, errW_none, errW_some] <;> rfl), by repeat (first | (with_reducible first | exact HI0.out | apply IsS63.alloc | apply IsS63.drewN | apply IsS63.drew | apply IsS63.set_1 | apply IsS63.set_2) | exact HI0.out), by repeat (first | (with_reducible first | exact HB.out | apply below_alloc | apply pw_below_drewN | apply below_drew1 | refine below_set ?_ (IsS63.ge HI0.out)) | exact HB.out), by repeat (first | (with_reducible first | exact HK.out | apply KeepBut.set_ | apply keep_drewN | apply keep_drew | apply keep_alloc) | exact HK.out)⟩

/-! ### octet_Reader_Left: function 14 -/
def octet_Reader_Left.f (s0_0 : List Int) (s0_1 : Int) (s0_2 : Bool) : Option (Int × Int × Bool) := some (wrap64 ((s0_0.length : Int) - s0_1), s0_1, s0_2)
set_option maxHeartbeats 8000000 in
set_option maxRecDepth 100000 in
theorem octet_Reader_Left.calls (g : Nat) (s0_0 : List Int) (s0_1 : Int) (s0_2 : Bool) (r1 : Int) (r2 : Int) (r3 : Bool) (w0 w : World) (hI : IsS63 w0 w g s0_0 s0_1 s0_2) (hB : Below w0.heap.size w0 w) (h : octet_Reader_Left.f s0_0 s0_1 s0_2 = some (r1, r2, r3)) :
    Calls Tryd.prog 14 #[.pointer (some ⟨g, 0, none⟩)] w fun e w' => e = .returned (.int .i64 r1) ∧ IsS63 w0 w' g s0_0 r2 r3 ∧ Below w0.heap.size w0 w' ∧ KeepBut w w' g none := by
  have HI0 := Aside0.mk hI
  have HK := Aside0.mk (KeepBut.refl w g none)
  have HL := Aside0.mk hB.size
  clear hI
  have HW0 := Aside0.mk hB.size
  have HB := Aside0.mk hB
  clear hB
  have H : (some (wrap64 ((s0_0.length : Int) - s0_1), s0_1, s0_2)) = some (r1, r2, r3) := h
  clear h
  simp only [Option.some.injEq, Prod.mk.injEq] at H
  obtain ⟨rfl, rfl, rfl⟩ := H
  obtain ⟨ASz2_0, cSz2_0, HGz2, hgz2, HSz2_0⟩ := HI0.out
  have hcz2_0 := cellS63_0 HGz2
  have hcz2_1 := cellS63_1 HGz2
  have hcz2_2 := cellS63_2 HGz2
  have hfz2_1 := blk_frozen HGz2 1
  have hfz2_2 := blk_frozen HGz2 2
  clear HGz2 hgz2
  go_enter Tryd.func14, Tryd.ntmps14
  go_wp2
  repeat (go_quiet (fail); try go_wp2)
  go_ret
  exact ⟨by first | rfl | (simp [errW_none, errW_some] <;> rfl) | (simp [*, errW_none, errW_some] <;> rfl), by repeat (first | (with_reducible first | exact HI0.out | apply IsS63.alloc | apply IsS63.drewN | apply IsS63.drew | apply IsS63.set_1 | apply IsS63.set_2) | exact HI0.out), by repeat (first | (with_reducible first | exact HB.out | apply below_alloc | apply pw_below_drewN | apply below_drew1 | refine below_set ?_ (IsS63.ge HI0.out)) | exact HB.out), by repeat (first | (with_reducible first | exact HK.out | apply KeepBut.set_ | apply keep_drewN | apply keep_drew | apply keep_alloc) | exact HK.out)⟩

-- NOT PRINTED: function 42 (reflectlite_ValueOf)

-- NOT PRINTED: function 43 (reflectlite_Value_Type)

-- NOT PRINTED: function 44 (reflectlite_Value_IsNil)

-- NOT PRINTED: function 46 (reflectlite_TypeOf)

-- NOT PRINTED: function 47 (reflectlite_Value_Elem)

-- NOT PRINTED: function 48 (reflectlite_Value_Set)

-- NOT PRINTED: function 45 (errors_as)

-- NOT PRINTED: function 39 (errors_As)

-- NOT PRINTED: function 30 (api_Code)

-- NOT PRINTED: function 31 (api_Place)

/-! ### plumblaw16_sameErr: function 15, by hand -/
def plumblaw16_sameErr.f (a0 : Option Int) (a1 a2 : Int) : Option Bool := some (sameV a0 a1 a2)
theorem plumblaw16_sameErr.calls (v : Value) (a0 : Option Int) (a1 a2 : Int) (r : Bool) (w : World) (hg : Handle w) (hv : EV w v a0) (h : plumblaw16_sameErr.f a0 a1 a2 = some r) :
    Calls Tryd.prog 15 #[v, .int .i64 a1, .int .i64 a2] w fun e w' => e = .returned (.bool r) ∧ Below w.heap.size w w' := by
  obtain rfl := Option.some.inj h
  exact same_calls v a0 a1 a2 w hg hv

/-! ### api_Wrap: function 32, by hand -/
def api_Wrap.f (a0 a1 : Int) : Option (Option Int) := if 0 ≤ a1 ∧ a1 < 1024 then some (some (a0 * 1024 + a1)) else none
theorem api_Wrap.calls (a0 a1 : Int) (r : Option Int) (w : World) (h : api_Wrap.f a0 a1 = some r) :
    Calls Tryd.prog 32 #[.int .i64 a0, .int .i64 a1] w fun e w' => ∃ ev : Value, e = .returned ev ∧ EV w' ev r ∧ Below w.heap.size w w' := by
  unfold api_Wrap.f at h
  by_cases c : 0 ≤ a1 ∧ a1 < 1024
  · rw [if_pos c] at h
    obtain rfl := Option.some.inj h
    exact wrap_calls a0 a1 w c
  · rw [if_neg c] at h
    exact absurd h (by simp)

/-! ### octet_Reader_Err: function 16 -/
def octet_Reader_Err.f (s0_0 : List Int) (s0_1 : Int) (s0_2 : Bool) : Option (Option Int × Int × Bool) := if s0_2 = true then ((api_Wrap.f s0_1 160).bind fun t101 => (some (t101, s0_1, s0_2))) else (some (none, s0_1, s0_2))
set_option maxHeartbeats 8000000 in
set_option maxRecDepth 100000 in
theorem octet_Reader_Err.calls (g : Nat) (s0_0 : List Int) (s0_1 : Int) (s0_2 : Bool) (r1 : Option Int) (r2 : Int) (r3 : Bool) (w0 w : World) (hI : IsS63 w0 w g s0_0 s0_1 s0_2) (hB : Below w0.heap.size w0 w) (h : octet_Reader_Err.f s0_0 s0_1 s0_2 = some (r1, r2, r3)) :
    Calls Tryd.prog 16 #[.pointer (some ⟨g, 0, none⟩)] w fun e w' => ∃ ev_ : Value, e = .returned ev_ ∧ EV w' ev_ r1 ∧ IsS63 w0 w' g s0_0 r2 r3 ∧ Below w0.heap.size w0 w' ∧ KeepBut w w' g none := by
  have HI0 := Aside0.mk hI
  have HK := Aside0.mk (KeepBut.refl w g none)
  have HL := Aside0.mk hB.size
  clear hI
  have HW0 := Aside0.mk hB.size
  have HB := Aside0.mk hB
  clear hB
  have H : (if s0_2 = true then ((api_Wrap.f s0_1 160).bind fun t101 => (some (t101, s0_1, s0_2))) else (some (none, s0_1, s0_2))) = some (r1, r2, r3) := h
  clear h
  by_cases c2 : s0_2 = true
  · subst c2
    have H1 : ((api_Wrap.f s0_1 160).bind fun t101 => (some (t101, s0_1, true))) = some (r1, r2, r3) := by rw [if_pos rfl] at H; exact H
    clear H
    have H := H1
    clear H1
    replace H := Option.bind_eq_some_iff.mp H
    obtain ⟨t101, A30, H⟩ := H
    replace H : (some (t101, s0_1, true)) = some (r1, r2, r3) := H
    have A3 := Aside0.mk A30
    clear A30
    simp only [Option.some.injEq, Prod.mk.injEq] at H
    obtain ⟨rfl, rfl, rfl⟩ := H
    obtain ⟨ASz4_0, cSz4_0, HGz4, hgz4, HSz4_0⟩ := HI0.out
    have hcz4_0 := cellS63_0 HGz4
    have hcz4_1 := cellS63_1 HGz4
    have hcz4_2 := cellS63_2 HGz4
    have hfz4_1 := blk_frozen HGz4 1
    have hfz4_2 := blk_frozen HGz4 2
    clear HGz4 hgz4
    go_enter Tryd.func16, Tryd.ntmps16
    go_wp2_with (first | ((with_reducible refine gate_callee (f := 32) rfl ?_); refine goesL_ (some 11) rfl rfl Tryd.func32 (by kernel_rfl) rfl #[.int .i64 s0_1, .int .i64 160] rfl (by (try simp only [List.map_toArray, List.map_cons, List.map_nil]); first | done | rfl | (simp only [List.length_drop, List.length_take]; rfl)) ?_; (with_reducible refine (api_Wrap.calls s0_1 160 t101 _ A3.out).mono ?_); rintro e w5 ⟨ev_, rfl, hev_, hb⟩; refine ⟨_, rfl, ?_⟩; have HEV := Aside0.mk hev_; clear hev_; have n0_ := Aside0.mk (IsS63.below (by repeat (first | (with_reducible first | exact HI0.out | apply IsS63.alloc | apply IsS63.drewN | apply IsS63.drew | apply IsS63.set_1 | apply IsS63.set_2) | exact HI0.out)) hb); have n1_ := Aside0.mk (KeepBut.trans (by repeat (first | (with_reducible first | exact HK.out | apply KeepBut.set_ | apply keep_drewN | apply keep_drew | apply keep_alloc) | exact HK.out)) (KeepBut.of_below hb g none) (.inl rfl)); have n2_ := Aside0.mk (below_step (by repeat (first | (with_reducible first | exact HB.out | apply below_alloc | apply pw_below_drewN | apply below_drew1 | refine below_set ?_ (IsS63.ge HI0.out)) | exact HB.out)) hb); clear HI0; clear HK; clear HB; have HI0 := n0_; have HK := n1_; have HB := n2_; clear n0_ n1_ n2_; (try clear hb); (try clear hb2); (try clear hk); (try clear hi); (try simp only [errW_none, errW_some])))
    go_ret
    exact ⟨_, by first | rfl | (simp [errW_none, errW_some] <;> rfl) | (simp [*, errW_none, errW_some] <;> rfl), (by first | exact EV_none _ | exact HEV.out | exact EV_drewN HEV.out _), by repeat (first | (with_reducible first | exact HI0.out | apply IsS63.alloc | apply IsS63.drewN | apply IsS63.drew | apply IsS63.set_1 | apply IsS63.set_2) | exact HI0.out), by repeat (first | (with_reducible first | exact HB.out | apply below_alloc | apply pw_below_drewN | apply below_drew1 | refine below_set ?_ (IsS63.ge HI0.out)) | exact HB.out), by repeat (first | (with_reducible first | exact HK.out | apply KeepBut.set_ | apply keep_drewN | apply keep_drew | apply keep_alloc) | exact HK.out)⟩
  · replace c2 := Bool.eq_false_iff.mpr c2
    subst c2
    have H1 : (some (none, s0_1, false)) = some (r1, r2, r3) := by rw [if_neg (show ¬ (false = true) by decide)] at H; exact H
    clear H
    have H := H1
    clear H1
    simp only [Option.some.injEq, Prod.mk.injEq] at H
    obtain ⟨rfl, rfl, rfl⟩ := H
    obtain ⟨ASz6_0, cSz6_0, HGz6, hgz6, HSz6_0⟩ := HI0.out
    have hcz6_0 := cellS63_0 HGz6
    have hcz6_1 := cellS63_1 HGz6
    have hcz6_2 := cellS63_2 HGz6
    have hfz6_1 := blk_frozen HGz6 1
    have hfz6_2 := blk_frozen HGz6 2
    clear HGz6 hgz6
    go_enter Tryd.func16, Tryd.ntmps16
    go_wp2
    go_ret
    exact ⟨_, by first | rfl | (simp [errW_none, errW_some] <;> rfl) | (simp [*, errW_none, errW_some] <;> rfl), (by first | exact EV_none _ | exact HEV.out | exact EV_drewN HEV.out _), by repeat (first | (with_reducible first | exact HI0.out | apply IsS63.alloc | apply IsS63.drewN | apply IsS63.drew | apply IsS63.set_1 | apply IsS63.set_2) | exact HI0.out), by repeat (first | (with_reducible first | exact HB.out | apply below_alloc | apply pw_below_drewN | apply below_drew1 | refine below_set ?_ (IsS63.ge HI0.out)) | exact HB.out), by repeat (first | (with_reducible first | exact HK.out | apply KeepBut.set_ | apply keep_drewN | apply keep_drew | apply keep_alloc) | exact HK.out)⟩

/-! ### octet_Reader_take: function 33, by hand -/
set_option maxHeartbeats 4000000 in
set_option maxRecDepth 100000 in
/-- It is bad already. -/
theorem take_bad (g : Nat) (f0 : List Int) (f1 : Int) (n : Int) (le : Bool) (w0 w : World) (hI : IsS63 w0 w g f0 f1 true) (hB : Below w0.heap.size w0 w) :
    Calls Tryd.prog 33 #[.pointer (some ⟨g, 0, none⟩), .int .i64 n, .bool le] w fun e w' => e = .returned (.int .u64 0) ∧ IsS63 w0 w' g f0 f1 true ∧ Below w0.heap.size w0 w' ∧ KeepBut w w' g none := by
  obtain ⟨A0, c0, hb, hg, hr0⟩ := hI
  have h2 := cellS63_2 hb
  have hz2 : w.frozen? ⟨g, 2, none⟩ = false := by simp [World.frozen?, hb]
  have HB := Aside0.mk hb
  have HG := Aside0.mk hg
  have HR := Aside0.mk hr0
  have HBW := Aside0.mk hB
  clear hb hg hr0 hB
  go_enter Tryd.func33, Tryd.ntmps33
  go_wp2_with fail
  go_quiet (fail)
  go_wp2_with fail
  go_ret
  refine ⟨rfl, ⟨A0, c0, ?_, HG.out, HR.out⟩, ?_, ?_⟩
  · simpa using blk_set (blk_drewN HB.out _) 2 (.bool true)
  · exact (pw_below_drewN HBW.out _).setCell HG.out _
  · exact KeepBut.set_ (KeepBut.of_below (pw_below_drewN (Below.refl _ _) _) g none) 2 (.bool true)
set_option maxHeartbeats 4000000 in
set_option maxRecDepth 100000 in
/-- Too few bytes. -/
theorem take_short (g : Nat) (f0 : List Int) (f1 : Int) (n : Int) (le : Bool) (w0 w : World) (hI : IsS63 w0 w g f0 f1 false) (hB : Below w0.heap.size w0 w) (h0 : 0 ≤ f1) (h1 : f1 ≤ f0.length) (hn : (f0.length : Int) - f1 < n) (hl : f0.length ≤ 9223372036854775807) :
    Calls Tryd.prog 33 #[.pointer (some ⟨g, 0, none⟩), .int .i64 n, .bool le] w fun e w' => e = .returned (.int .u64 0) ∧ IsS63 w0 w' g f0 f1 true ∧ Below w0.heap.size w0 w' ∧ KeepBut w w' g none := by
  obtain ⟨A0, c0, hb, hg, hr0⟩ := hI
  have h2 := cellS63_2 hb
  have h3 := cellS63_1 hb
  have h4 := cellS63_0 hb
  have hz2 : w.frozen? ⟨g, 2, none⟩ = false := by simp [World.frozen?, hb]
  have q1 : IntKind.i64.wrap ((f0.length : Int) - f1) = (f0.length : Int) - f1 := by rw [i64_w]; unfold wrap64; omega
  have q2 : decide ((f0.length : Int) - f1 < n) = true := decide_eq_true hn
  have HB := Aside0.mk hb
  have HG := Aside0.mk hg
  have HR := Aside0.mk hr0
  have HBW := Aside0.mk hB
  clear hb hg hr0 hB
  go_enter Tryd.func33, Tryd.ntmps33
  go_wp2_with fail
  go_quiet (fail)
  go_wp2_with fail
  go_ret
  refine ⟨rfl, ⟨A0, c0, ?_, HG.out, HR.out⟩, ?_, ?_⟩
  · simpa using blk_set (blk_drewN HB.out _) 2 (.bool true)
  · exact (pw_below_drewN HBW.out _).setCell HG.out _
  · exact KeepBut.set_ (KeepBut.of_below (pw_below_drewN (Below.refl _ _) _) g none) 2 (.bool true)
/-- The number of bytes in an order: from a place on, over what was read. -/
def tkl : Nat → List Int → Bool → Int → Int → Option Int
  | 0, _, _, _, _ => none
  | k + 1, cs, le, i, v => if i < (cs.length : Int) then tkl k cs le (i + 1) (if le = true then Go.bits .or .u64 v (shl .u64 (IntKind.u64.wrap (rd cs i)) (8 * i)) else Go.bits .or .u64 (shl .u64 v 8) (IntKind.u64.wrap (rd cs i))) else some v
set_option maxHeartbeats 4000000 in
set_option maxRecDepth 100000 in
theorem take_some (k g : Nat) (f0 : List Int) (f1 : Int) (n r : Int) (le : Bool) (w0 w : World) (hI : IsS63 w0 w g f0 f1 false) (hB : Below w0.heap.size w0 w) (h0 : 0 ≤ f1) (h1 : f1 + n ≤ f0.length) (hn : 0 < n ∧ n ≤ 8) (hl : f0.length ≤ 9223372036854775807) (hk : tkl k ((f0.drop f1.toNat).take n.toNat) le 0 0 = some r) :
    Calls Tryd.prog 33 #[.pointer (some ⟨g, 0, none⟩), .int .i64 n, .bool le] w fun e w' => e = .returned (.int .u64 r) ∧ IsS63 w0 w' g f0 (f1 + n) false ∧ Below w0.heap.size w0 w' ∧ KeepBut w w' g none := by
  obtain ⟨A0, c0, hb, hg, hr0, hc0⟩ := hI
  have h2 := cellS63_2 hb
  have h3 := cellS63_1 hb
  have h4 := cellS63_0 hb
  have hz1 : w.frozen? ⟨g, 1, none⟩ = false := by simp [World.frozen?, hb]
  have q1 : IntKind.i64.wrap ((f0.length : Int) - f1) = (f0.length : Int) - f1 := by rw [i64_w]; unfold wrap64; omega
  have q2 : decide ((f0.length : Int) - f1 < n) = false := decide_eq_false (by omega)
  have q3 : wrap64 (f1 + n) = f1 + n := by unfold wrap64; omega
  have q3b : IntKind.i64.wrap (f1 + n) = f1 + n := (i64_w _).trans q3
  have q7 : (f1 + n ≤ (c0 : Int)) = True := eq_true (by omega)
  have q8 : (0 ≤ f1 + n) = True := eq_true (by omega)
  obtain ⟨P, rfl⟩ := Int.eq_ofNat_of_zero_le h0
  obtain ⟨m, rfl⟩ := Int.eq_ofNat_of_zero_le (show 0 ≤ n by omega)
  have q4 : (0 ≤ ((P : Nat) : Int)) = True := eq_true (by omega)
  have q5 : ((P : Int) ≤ (P : Int) + (m : Int)) = True := eq_true (by omega)
  have q6 : ((P : Int) + (m : Int) ≤ (f0.length : Int)) = True := eq_true h1
  have HLC := Aside0.mk hc0
  have HB := Aside0.mk hb
  have HG := Aside0.mk hg
  have HR := Aside0.mk hr0
  have HBW := Aside0.mk hB
  obtain ⟨ad, rfl, _⟩ := Kd.at_int hr0 0 (by omega) (by omega)
  obtain ⟨cs, hcs⟩ : ∃ cs, (f0.drop ((P : Int)).toNat).take ((m : Int)).toNat = cs := ⟨_, rfl⟩
  have hcl : cs.length = m := by rw [← hcs, List.length_take, List.length_drop]; omega
  have hcell : ∀ j : Int, 0 ≤ j → j < (m : Int) → w0.cell? ((ad.add P).add j.toNat) = some (.int .u8 (rd cs j)) := by
    intro j j0 j1
    obtain ⟨ad', e, hc⟩ := Kd.at_int hr0 ((P : Int) + j) (by omega) (by omega)
    obtain rfl := Option.some.inj e
    have e1 : (ad.add P).add j.toNat = ad.add ((P : Int) + j).toNat := by rw [Addr.add_add]; congr 1; omega
    have e2 : rd cs j = rd f0 ((P : Int) + j) := by
      rw [← hcs]
      simp only [rd, List.getD_eq_getElem?_getD]
      rw [List.getElem?_take_of_lt (by omega), List.getElem?_drop]
      congr 2
      omega
    rw [e1, e2]
    exact hc
  rw [hcs] at hk
  have q9 : P + m - P = m := by omega
  have HK := Aside0.mk hk
  have HCE := Aside0.mk hcell
  have HCL := Aside0.mk hcl
  clear hb hg hr0 hB hk hcell hcl
  go_enter Tryd.func33, Tryd.ntmps33
  go_wp2_with fail
  go_quiet (fail)
  go_wp2_with fail
  go_quiet (fail)
  go_wp2_with fail
  go_loopg [7, 47] k (fun kq v7 v47 w' => ∃ (v i : Int) (nn : Nat), v7 = .int .u64 v ∧ v47 = .int .i64 i ∧ w' = w.drewN nn ∧ Aside0 (tkl kq cs le i v = some r) ∧ Aside0 (0 ≤ i ∧ i ≤ (m : Int)) ∧ Aside0 (kq ≤ k))
  case atStart => exact ⟨0, 0, _, rfl, rfl, World.drewN_drewN _ _ _, HK, ⟨by omega⟩, ⟨Nat.le_refl _⟩⟩
  case round =>
    obtain ⟨v, i, nn, rfl, rfl, rfl, HA, HI, HKK⟩ := hrel
    cases gk with
    | zero => exact absurd HA.out (by simp [tkl])
    | succ k1 =>
      have H := HA.out
      clear HA
      simp only [tkl] at H
      have hi := HI.out
      by_cases c : i < (cs.length : Int)
      · rw [if_pos c] at H
        rw [HCL.out] at c
        have c1 : decide (i < (m : Int)) = true := decide_eq_true c
        have c2 : (0 ≤ i) = True := eq_true hi.1
        have c3 : (i < (m : Int)) = True := eq_true c
        have hc0 := HCE.out i hi.1 c
        have hc := (HBW.out.cell (World.block_lt_of_cell? w0 _ hc0)).trans hc0
        clear hc0
        obtain ⟨x, hx⟩ : ∃ x, rd cs i = x := ⟨_, rfl⟩
        obtain ⟨x1, hx1⟩ : ∃ x1, IntKind.u64.wrap x = x1 := ⟨_, rfl⟩
        rw [hx] at hc H
        rw [hx1] at H
        have e8 : wrap64 (8 * i) = 8 * i := by unfold wrap64; omega
        have e8b : IntKind.i64.wrap (8 * i) = 8 * i := (i64_w _).trans e8
        have c4 : (0 ≤ 8 * i) = True := eq_true (by omega)
        have c5 : (8 * i < 0) = False := eq_false (by omega)
        have e1 : wrap64 (i + 1) = i + 1 := by unfold wrap64; omega
        obtain ⟨sh, hsh⟩ : ∃ sh, shl .u64 x1 (8 * i) = sh := ⟨_, rfl⟩
        have hsh_ : (IntKind.u64.wrap (x1 * 2 ^ min (8 * i).toNat 64)) = sh := hsh
        have hshz : (IntKind.u64.wrap (x1 * 2 ^ (8 * i).toNat)) = sh := shl_small hsh (by simp [IntKind.bits]; omega)
        obtain ⟨sv, hsv⟩ : ∃ sv, shl .u64 v 8 = sv := ⟨_, rfl⟩
        have hsvz : (IntKind.u64.wrap (v * 256)) = sv := shl_small hsv (by simp [IntKind.bits])
        cases le
        · rw [if_neg (by decide), hsv] at H
          have H' := Aside0.mk H
          clear H
          go_wp2
          go_roundg k1
          case measure => have := HKK.out; omega
          case rel => exact ⟨_, _, _, rfl, rfl, rfl, H', ⟨by omega⟩, ⟨by have := HKK.out; omega⟩⟩
        · rw [if_pos rfl, hsh] at H
          have H' := Aside0.mk H
          clear H
          go_wp2
          go_roundg k1
          case measure => have := HKK.out; omega
          case rel => exact ⟨_, _, _, rfl, rfl, rfl, H', ⟨by omega⟩, ⟨by have := HKK.out; omega⟩⟩
      · rw [if_neg c] at H
        rw [HCL.out] at c
        have c1 : decide (i < (m : Int)) = false := decide_eq_false c
        have c3 : (i < (m : Int)) = False := eq_false c
        obtain rfl := Option.some.inj H
        go_wp2_with fail
        go_ret
        refine ⟨rfl, ⟨some ad, c0, ?_, HG.out, HR.out, HLC.out⟩, ?_, ?_⟩
        · simpa using blk_set (blk_drewN HB.out _) 1 (.int .i64 ((P : Int) + (m : Int)))
        · exact (pw_below_drewN HBW.out _).setCell HG.out _
        · exact KeepBut.set_ (KeepBut.of_below (pw_below_drewN (Below.refl _ _) _) g none) 1 (.int .i64 ((P : Int) + (m : Int)))
def octet_Reader_take.f (s0_0 : List Int) (s0_1 : Int) (s0_2 : Bool) (a1 : Int) (a2 : Bool) : Option (Int × Int × Bool) := if s0_2 = true then some (0, s0_1, true) else if (0 ≤ s0_1 ∧ s0_1 ≤ s0_0.length ∧ s0_0.length ≤ 9223372036854775807) ∧ 0 < a1 ∧ a1 ≤ 8 then (if (s0_0.length : Int) - s0_1 < a1 then some (0, s0_1, true) else (tkl 20 ((s0_0.drop s0_1.toNat).take a1.toNat) a2 0 0).bind fun r => some (r, s0_1 + a1, false)) else none
theorem octet_Reader_take.calls (g : Nat) (s0_0 : List Int) (s0_1 : Int) (s0_2 : Bool) (a1 : Int) (a2 : Bool) (r1 : Int) (r2 : Int) (r3 : Bool) (w0 w : World) (hI : IsS63 w0 w g s0_0 s0_1 s0_2) (hB : Below w0.heap.size w0 w) (h : octet_Reader_take.f s0_0 s0_1 s0_2 a1 a2 = some (r1, r2, r3)) :
    Calls Tryd.prog 33 #[.pointer (some ⟨g, 0, none⟩), .int .i64 a1, .bool a2] w fun e w' => e = .returned (.int .u64 r1) ∧ IsS63 w0 w' g s0_0 r2 r3 ∧ Below w0.heap.size w0 w' ∧ KeepBut w w' g none := by
  unfold octet_Reader_take.f at h
  by_cases c : s0_2 = true
  · subst c
    rw [if_pos rfl] at h
    simp only [Option.some.injEq, Prod.mk.injEq] at h
    obtain ⟨rfl, rfl, rfl⟩ := h
    exact take_bad g s0_0 s0_1 a1 a2 w0 w hI hB
  · obtain rfl : s0_2 = false := Bool.eq_false_iff.mpr c
    rw [if_neg c] at h
    by_cases c2 : (0 ≤ s0_1 ∧ s0_1 ≤ s0_0.length ∧ s0_0.length ≤ 9223372036854775807) ∧ 0 < a1 ∧ a1 ≤ 8
    · rw [if_pos c2] at h
      by_cases c3 : (s0_0.length : Int) - s0_1 < a1
      · rw [if_pos c3] at h
        simp only [Option.some.injEq, Prod.mk.injEq] at h
        obtain ⟨rfl, rfl, rfl⟩ := h
        exact take_short g s0_0 s0_1 a1 a2 w0 w hI hB c2.1.1 c2.1.2.1 c3 c2.1.2.2
      · rw [if_neg c3] at h
        obtain ⟨r, hr, h⟩ := Option.bind_eq_some_iff.mp h
        simp only [Option.some.injEq, Prod.mk.injEq] at h
        obtain ⟨rfl, rfl, rfl⟩ := h
        exact take_some 20 g s0_0 s0_1 a1 r a2 w0 w hI hB c2.1.1 (by omega) c2.2 c2.1.2.2 hr
    · rw [if_neg c2] at h
      exact absurd h (by simp)

/-! ### octet_Reader_Byte: function 17 -/
def octet_Reader_Byte.f (s0_0 : List Int) (s0_1 : Int) (s0_2 : Bool) : Option (Int × Int × Bool) := (octet_Reader_take.f s0_0 s0_1 s0_2 1 false).bind fun bt102 => (some ((bt102.1) % 256, bt102.2.1, bt102.2.2))
set_option maxHeartbeats 8000000 in
set_option maxRecDepth 100000 in
theorem octet_Reader_Byte.calls (g : Nat) (s0_0 : List Int) (s0_1 : Int) (s0_2 : Bool) (r1 : Int) (r2 : Int) (r3 : Bool) (w0 w : World) (hI : IsS63 w0 w g s0_0 s0_1 s0_2) (hB : Below w0.heap.size w0 w) (h : octet_Reader_Byte.f s0_0 s0_1 s0_2 = some (r1, r2, r3)) :
    Calls Tryd.prog 17 #[.pointer (some ⟨g, 0, none⟩)] w fun e w' => e = .returned (.int .u8 r1) ∧ IsS63 w0 w' g s0_0 r2 r3 ∧ Below w0.heap.size w0 w' ∧ KeepBut w w' g none := by
  have HI0 := Aside0.mk hI
  have HK := Aside0.mk (KeepBut.refl w g none)
  have HL := Aside0.mk hB.size
  clear hI
  have HW0 := Aside0.mk hB.size
  have HB := Aside0.mk hB
  clear hB
  have H : ((octet_Reader_take.f s0_0 s0_1 s0_2 1 false).bind fun bt102 => (some ((bt102.1) % 256, bt102.2.1, bt102.2.2))) = some (r1, r2, r3) := h
  clear h
  replace H := Option.bind_eq_some_iff.mp H
  obtain ⟨⟨t102, t103, t104⟩, A20, H⟩ := H
  replace H : (some ((t102) % 256, t103, t104)) = some (r1, r2, r3) := H
  have A2 := Aside0.mk A20
  clear A20
  simp only [Option.some.injEq, Prod.mk.injEq] at H
  obtain ⟨rfl, rfl, rfl⟩ := H
  go_enter Tryd.func17, Tryd.ntmps17
  go_wp2_with (first | ((with_reducible refine gate_callee (f := 33) rfl ?_); refine goesL_ (some 4) rfl rfl Tryd.func33 (by kernel_rfl) rfl #[.pointer (some ⟨g, 0, none⟩), .int .i64 1, .bool false] rfl (by (try simp only [List.map_toArray, List.map_cons, List.map_nil]); first | done | rfl | (simp only [List.length_drop, List.length_take]; rfl)) ?_; (with_reducible refine (octet_Reader_take.calls g s0_0 s0_1 s0_2 1 false t102 t103 t104 w0 _ ?side1 ?side2 A2.out).mono ?_); (case side1 => repeat (first | (with_reducible first | exact HI0.out | apply IsS63.alloc | apply IsS63.drewN | apply IsS63.drew | apply IsS63.set_1 | apply IsS63.set_2) | exact HI0.out)); (case side2 => repeat (first | (with_reducible first | exact HB.out | apply below_alloc | apply pw_below_drewN | apply below_drew1 | refine below_set ?_ (IsS63.ge HI0.out)) | exact HB.out)); rintro e w3 ⟨rfl, hi, hb, hk⟩; refine ⟨_, rfl, ?_⟩; have n0_ := Aside0.mk (KeepBut.trans (by repeat (first | (with_reducible first | exact HK.out | apply KeepBut.set_ | apply keep_drewN | apply keep_drew | apply keep_alloc) | exact HK.out)) hk (.inl rfl)); have n1_ := Aside0.mk (hb); have n2_ := Aside0.mk (hi); clear HK; clear HB; clear HI0; have HK := n0_; have HB := n1_; have HI0 := n2_; clear n0_ n1_ n2_; (try clear hb); (try clear hb2); (try clear hk); (try clear hi)))
  go_ret
  exact ⟨by first | rfl | (simp [errW_none, errW_some] <;> rfl) | (simp [*, errW_none, errW_some] <;> rfl), by repeat (first | (with_reducible first | exact HI0.out | apply IsS63.alloc | apply IsS63.drewN | apply IsS63.drew | apply IsS63.set_1 | apply IsS63.set_2) | exact HI0.out), by repeat (first | (with_reducible first | exact HB.out | apply below_alloc | apply pw_below_drewN | apply below_drew1 | refine below_set ?_ (IsS63.ge HI0.out)) | exact HB.out), by repeat (first | (with_reducible first | exact HK.out | apply KeepBut.set_ | apply keep_drewN | apply keep_drew | apply keep_alloc) | exact HK.out)⟩

/-! ### plumblaw16_Item_wide: function 28 -/
def plumblaw16_Item_wide.f (a0_0 : Int) (a0_1 : Int) (a0_2 : Bool) : Option (Int) := if (Int.tmod a0_0 3) < 0 then (some (wrap64 ((Int.tmod a0_0 3) + 3))) else (some (Int.tmod a0_0 3))
set_option maxHeartbeats 8000000 in
set_option maxRecDepth 100000 in
theorem plumblaw16_Item_wide.calls (a0_0 : Int) (a0_1 : Int) (a0_2 : Bool) (r : Int) (w : World) (h : plumblaw16_Item_wide.f a0_0 a0_1 a0_2 = some r) :
    Calls Tryd.prog 28 #[.agg #[.int .i64 a0_0, .int .u64 a0_1, .bool a0_2]] w fun e w' => e = .returned (.int .i64 r) ∧ Below w.heap.size w w' := by
  have hu43 := Tryd.underlying43
  have HB := Aside0.mk (Below.refl w.heap.size w)
  have H : (if (Int.tmod a0_0 3) < 0 then (some (wrap64 ((Int.tmod a0_0 3) + 3))) else (some (Int.tmod a0_0 3))) = some r := h
  clear h
  by_cases c2 : (Int.tmod a0_0 3) < 0
  · rw [if_pos c2] at H
    have c2b0 : decide ((Int.tmod a0_0 3) < 0) = true := decide_eq_true c2
    clear c2
    obtain rfl := Option.some.inj H
    go_enter Tryd.func28, Tryd.ntmps28
    go_wp2_with (first | ((with_reducible refine gate_dst (N := 1) rfl ?_); refine box_event ?hg (N := 1) ?hd (cs := #[.int .i64 a0_0, .int .u64 a0_1, .bool a0_2]) (t := 43) ?hr ?_; (case hd => rfl); (case hg => rfl); (case hr => first | (go_simp; done) | (go_simp; rfl)); intro gb105 hg w3 hbox hb; have n0_ := Aside0.mk (below_step (by repeat (first | (with_reducible first | exact HB.out | apply below_alloc | apply pw_below_drewN | apply below_drew1) | exact HB.out)) hb); have n1_ := Aside0.mk (hbox); have n2_ := Aside0.mk ((by rw [hg]; exact (below_size (by repeat (first | (with_reducible first | exact HB.out | apply below_alloc | apply pw_below_drewN | apply below_drew1) | exact HB.out))) : w.heap.size ≤ gb105)); have n3_ := Aside0.mk ((by rw [hg]; exact (below_size (by repeat (first | (with_reducible first | exact HB.out | apply below_alloc | apply pw_below_drewN | apply below_drew1) | exact HB.out))) : w.heap.size ≤ gb105)); clear HB; have HB := n0_; have BK105 := n1_; have GW105 := n2_; have GE105 := n3_; clear n0_ n1_ n2_ n3_; clear hb hbox hg; have hcz4_0 : w3.cell? ⟨gb105, 0, none⟩ = some (.int .i64 a0_0) := (blk_cell BK105.out 0).trans rfl; have hcz4_1 : w3.cell? ⟨gb105, 1, none⟩ = some (.int .u64 a0_1) := (blk_cell BK105.out 1).trans rfl; have hcz4_2 : w3.cell? ⟨gb105, 2, none⟩ = some (.bool a0_2) := (blk_cell BK105.out 2).trans rfl; have hfz4_0 := blk_frozen BK105.out 0; have hfz4_1 := blk_frozen BK105.out 1; have hfz4_2 := blk_frozen BK105.out 2))
    go_ret
    exact ⟨by first | rfl | (simp [errW_none, errW_some] <;> rfl) | (simp [*, errW_none, errW_some] <;> rfl), by repeat (first | (with_reducible first | exact HB.out | apply below_alloc | apply pw_below_drewN | apply below_drew1 | refine below_set ?_ GE105.out) | exact HB.out)⟩
  · rw [if_neg c2] at H
    have c2b0 : decide ((Int.tmod a0_0 3) < 0) = false := decide_eq_false c2
    clear c2
    obtain rfl := Option.some.inj H
    go_enter Tryd.func28, Tryd.ntmps28
    go_wp2_with (first | ((with_reducible refine gate_dst (N := 1) rfl ?_); refine box_event ?hg (N := 1) ?hd (cs := #[.int .i64 a0_0, .int .u64 a0_1, .bool a0_2]) (t := 43) ?hr ?_; (case hd => rfl); (case hg => rfl); (case hr => first | (go_simp; done) | (go_simp; rfl)); intro gb105 hg w5 hbox hb; have n0_ := Aside0.mk (below_step (by repeat (first | (with_reducible first | exact HB.out | apply below_alloc | apply pw_below_drewN | apply below_drew1) | exact HB.out)) hb); have n1_ := Aside0.mk (hbox); have n2_ := Aside0.mk ((by rw [hg]; exact (below_size (by repeat (first | (with_reducible first | exact HB.out | apply below_alloc | apply pw_below_drewN | apply below_drew1) | exact HB.out))) : w.heap.size ≤ gb105)); have n3_ := Aside0.mk ((by rw [hg]; exact (below_size (by repeat (first | (with_reducible first | exact HB.out | apply below_alloc | apply pw_below_drewN | apply below_drew1) | exact HB.out))) : w.heap.size ≤ gb105)); clear HB; have HB := n0_; have BK105 := n1_; have GW105 := n2_; have GE105 := n3_; clear n0_ n1_ n2_ n3_; clear hb hbox hg; have hcz6_0 : w5.cell? ⟨gb105, 0, none⟩ = some (.int .i64 a0_0) := (blk_cell BK105.out 0).trans rfl; have hcz6_1 : w5.cell? ⟨gb105, 1, none⟩ = some (.int .u64 a0_1) := (blk_cell BK105.out 1).trans rfl; have hcz6_2 : w5.cell? ⟨gb105, 2, none⟩ = some (.bool a0_2) := (blk_cell BK105.out 2).trans rfl; have hfz6_0 := blk_frozen BK105.out 0; have hfz6_1 := blk_frozen BK105.out 1; have hfz6_2 := blk_frozen BK105.out 2))
    go_ret
    exact ⟨by first | rfl | (simp [errW_none, errW_some] <;> rfl) | (simp [*, errW_none, errW_some] <;> rfl), by repeat (first | (with_reducible first | exact HB.out | apply below_alloc | apply pw_below_drewN | apply below_drew1 | refine below_set ?_ GE105.out) | exact HB.out)⟩

/-! ### plumblaw16_Item_width: function 18 -/
def plumblaw16_Item_width.f (a0_0 : Int) (a0_1 : Int) (a0_2 : Bool) : Option (Int) := (plumblaw16_Item_wide.f a0_0 a0_1 a0_2).bind fun t107 => (if t107 = 0 then (some 1) else (if t107 = 1 then (some 4) else (some 8)))
set_option maxHeartbeats 8000000 in
set_option maxRecDepth 100000 in
theorem plumblaw16_Item_width.calls (a0_0 : Int) (a0_1 : Int) (a0_2 : Bool) (r : Int) (w : World) (h : plumblaw16_Item_width.f a0_0 a0_1 a0_2 = some r) :
    Calls Tryd.prog 18 #[.agg #[.int .i64 a0_0, .int .u64 a0_1, .bool a0_2]] w fun e w' => e = .returned (.int .i64 r) ∧ Below w.heap.size w w' := by
  have hu43 := Tryd.underlying43
  have HB := Aside0.mk (Below.refl w.heap.size w)
  have H : ((plumblaw16_Item_wide.f a0_0 a0_1 a0_2).bind fun t107 => (if t107 = 0 then (some 1) else (if t107 = 1 then (some 4) else (some 8)))) = some r := h
  clear h
  replace H := Option.bind_eq_some_iff.mp H
  obtain ⟨t107, A20, H⟩ := H
  replace H : (if t107 = 0 then (some 1) else (if t107 = 1 then (some 4) else (some 8))) = some r := H
  have A2 := Aside0.mk A20
  clear A20
  by_cases c3 : t107 = 0
  · rw [if_pos c3] at H
    have c3b0 : (t107 == 0) = true := beq_iff_eq.mpr c3
    have c3b1 : (t107 != 0) = false := bne_eq_false_iff_eq.mpr c3
    clear c3
    obtain rfl := Option.some.inj H
    go_enter Tryd.func18, Tryd.ntmps18
    go_wp2_with (first | ((with_reducible refine gate_dst (N := 1) rfl ?_); refine box_event ?hg (N := 1) ?hd (cs := #[.int .i64 a0_0, .int .u64 a0_1, .bool a0_2]) (t := 43) ?hr ?_; (case hd => rfl); (case hg => rfl); (case hr => first | (go_simp; done) | (go_simp; rfl)); intro gb106 hg w4 hbox hb; have n0_ := Aside0.mk (below_step (by repeat (first | (with_reducible first | exact HB.out | apply below_alloc | apply pw_below_drewN | apply below_drew1) | exact HB.out)) hb); have n1_ := Aside0.mk (hbox); have n2_ := Aside0.mk ((by rw [hg]; exact (below_size (by repeat (first | (with_reducible first | exact HB.out | apply below_alloc | apply pw_below_drewN | apply below_drew1) | exact HB.out))) : w.heap.size ≤ gb106)); have n3_ := Aside0.mk ((by rw [hg]; exact (below_size (by repeat (first | (with_reducible first | exact HB.out | apply below_alloc | apply pw_below_drewN | apply below_drew1) | exact HB.out))) : w.heap.size ≤ gb106)); clear HB; have HB := n0_; have BK106 := n1_; have GW106 := n2_; have GE106 := n3_; clear n0_ n1_ n2_ n3_; clear hb hbox hg; have hcz5_0 : w4.cell? ⟨gb106, 0, none⟩ = some (.int .i64 a0_0) := (blk_cell BK106.out 0).trans rfl; have hcz5_1 : w4.cell? ⟨gb106, 1, none⟩ = some (.int .u64 a0_1) := (blk_cell BK106.out 1).trans rfl; have hcz5_2 : w4.cell? ⟨gb106, 2, none⟩ = some (.bool a0_2) := (blk_cell BK106.out 2).trans rfl; have hfz5_0 := blk_frozen BK106.out 0; have hfz5_1 := blk_frozen BK106.out 1; have hfz5_2 := blk_frozen BK106.out 2) | ((with_reducible refine gate_callee (f := 28) rfl ?_); refine goesL_ (some 4) rfl rfl Tryd.func28 (by kernel_rfl) rfl #[.agg #[.int .i64 a0_0, .int .u64 a0_1, .bool a0_2]] rfl (by (try simp only [List.map_toArray, List.map_cons, List.map_nil]); first | done | rfl | (simp only [List.length_drop, List.length_take]; rfl)) ?_; (with_reducible refine (plumblaw16_Item_wide.calls a0_0 a0_1 a0_2 t107 _ A2.out).mono ?_); rintro e w6 ⟨rfl, hb⟩; refine ⟨_, rfl, ?_⟩; have n0_ := Aside0.mk (blk_below (g := gb106) (o := .cells #[.int .i64 a0_0, .int .u64 a0_1, .bool a0_2] 43 (0, 0)) (by (with_reducible repeat (first | refine blk_drewN ?_ _ | refine blk_drew ?_ | refine blk_alloc ?_ _)); exact BK106.out) hb); have n1_ := Aside0.mk (below_step (by repeat (first | (with_reducible first | exact HB.out | apply below_alloc | apply pw_below_drewN | apply below_drew1 | refine below_set ?_ GE106.out) | exact HB.out)) hb); clear BK106; clear HB; have BK106 := n0_; have HB := n1_; clear n0_ n1_; (try clear hb); (try clear hb2); (try clear hk); (try clear hi)))
    go_ret
    exact ⟨by first | rfl | (simp [errW_none, errW_some] <;> rfl) | (simp [*, errW_none, errW_some] <;> rfl), by repeat (first | (with_reducible first | exact HB.out | apply below_alloc | apply pw_below_drewN | apply below_drew1 | refine below_set ?_ GE106.out) | exact HB.out)⟩
  · rw [if_neg c3] at H
    have c3b0 : (t107 == 0) = false := beq_eq_false_iff_ne.mpr c3
    have c3b1 : (t107 != 0) = true := bne_iff_ne.mpr c3
    by_cases c7 : t107 = 1
    · rw [if_pos c7] at H
      have c7b0 : (t107 == 1) = true := beq_iff_eq.mpr c7
      have c7b1 : (t107 != 1) = false := bne_eq_false_iff_eq.mpr c7
      clear c7
      obtain rfl := Option.some.inj H
      go_enter Tryd.func18, Tryd.ntmps18
      go_wp2_with (first | ((with_reducible refine gate_dst (N := 1) rfl ?_); refine box_event ?hg (N := 1) ?hd (cs := #[.int .i64 a0_0, .int .u64 a0_1, .bool a0_2]) (t := 43) ?hr ?_; (case hd => rfl); (case hg => rfl); (case hr => first | (go_simp; done) | (go_simp; rfl)); intro gb106 hg w8 hbox hb; have n0_ := Aside0.mk (below_step (by repeat (first | (with_reducible first | exact HB.out | apply below_alloc | apply pw_below_drewN | apply below_drew1) | exact HB.out)) hb); have n1_ := Aside0.mk (hbox); have n2_ := Aside0.mk ((by rw [hg]; exact (below_size (by repeat (first | (with_reducible first | exact HB.out | apply below_alloc | apply pw_below_drewN | apply below_drew1) | exact HB.out))) : w.heap.size ≤ gb106)); have n3_ := Aside0.mk ((by rw [hg]; exact (below_size (by repeat (first | (with_reducible first | exact HB.out | apply below_alloc | apply pw_below_drewN | apply below_drew1) | exact HB.out))) : w.heap.size ≤ gb106)); clear HB; have HB := n0_; have BK106 := n1_; have GW106 := n2_; have GE106 := n3_; clear n0_ n1_ n2_ n3_; clear hb hbox hg; have hcz9_0 : w8.cell? ⟨gb106, 0, none⟩ = some (.int .i64 a0_0) := (blk_cell BK106.out 0).trans rfl; have hcz9_1 : w8.cell? ⟨gb106, 1, none⟩ = some (.int .u64 a0_1) := (blk_cell BK106.out 1).trans rfl; have hcz9_2 : w8.cell? ⟨gb106, 2, none⟩ = some (.bool a0_2) := (blk_cell BK106.out 2).trans rfl; have hfz9_0 := blk_frozen BK106.out 0; have hfz9_1 := blk_frozen BK106.out 1; have hfz9_2 := blk_frozen BK106.out 2) | ((with_reducible refine gate_callee (f := 28) rfl ?_); refine goesL_ (some 4) rfl rfl Tryd.func28 (by kernel_rfl) rfl #[.agg #[.int .i64 a0_0, .int .u64 a0_1, .bool a0_2]] rfl (by (try simp only [List.map_toArray, List.map_cons, List.map_nil]); first | done | rfl | (simp only [List.length_drop, List.length_take]; rfl)) ?_; (with_reducible refine (plumblaw16_Item_wide.calls a0_0 a0_1 a0_2 t107 _ A2.out).mono ?_); rintro e w10 ⟨rfl, hb⟩; refine ⟨_, rfl, ?_⟩; have n0_ := Aside0.mk (blk_below (g := gb106) (o := .cells #[.int .i64 a0_0, .int .u64 a0_1, .bool a0_2] 43 (0, 0)) (by (with_reducible repeat (first | refine blk_drewN ?_ _ | refine blk_drew ?_ | refine blk_alloc ?_ _)); exact BK106.out) hb); have n1_ := Aside0.mk (below_step (by repeat (first | (with_reducible first | exact HB.out | apply below_alloc | apply pw_below_drewN | apply below_drew1 | refine below_set ?_ GE106.out) | exact HB.out)) hb); clear BK106; clear HB; have BK106 := n0_; have HB := n1_; clear n0_ n1_; (try clear hb); (try clear hb2); (try clear hk); (try clear hi)))
      go_ret
      exact ⟨by first | rfl | (simp [errW_none, errW_some] <;> rfl) | (simp [*, errW_none, errW_some] <;> rfl), by repeat (first | (with_reducible first | exact HB.out | apply below_alloc | apply pw_below_drewN | apply below_drew1 | refine below_set ?_ GE106.out) | exact HB.out)⟩
    · rw [if_neg c7] at H
      have c7b0 : (t107 == 1) = false := beq_eq_false_iff_ne.mpr c7
      have c7b1 : (t107 != 1) = true := bne_iff_ne.mpr c7
      obtain rfl := Option.some.inj H
      go_enter Tryd.func18, Tryd.ntmps18
      go_wp2_with (first | ((with_reducible refine gate_dst (N := 1) rfl ?_); refine box_event ?hg (N := 1) ?hd (cs := #[.int .i64 a0_0, .int .u64 a0_1, .bool a0_2]) (t := 43) ?hr ?_; (case hd => rfl); (case hg => rfl); (case hr => first | (go_simp; done) | (go_simp; rfl)); intro gb106 hg w11 hbox hb; have n0_ := Aside0.mk (below_step (by repeat (first | (with_reducible first | exact HB.out | apply below_alloc | apply pw_below_drewN | apply below_drew1) | exact HB.out)) hb); have n1_ := Aside0.mk (hbox); have n2_ := Aside0.mk ((by rw [hg]; exact (below_size (by repeat (first | (with_reducible first | exact HB.out | apply below_alloc | apply pw_below_drewN | apply below_drew1) | exact HB.out))) : w.heap.size ≤ gb106)); have n3_ := Aside0.mk ((by rw [hg]; exact (below_size (by repeat (first | (with_reducible first | exact HB.out | apply below_alloc | apply pw_below_drewN | apply below_drew1) | exact HB.out))) : w.heap.size ≤ gb106)); clear HB; have HB := n0_; have BK106 := n1_; have GW106 := n2_; have GE106 := n3_; clear n0_ n1_ n2_ n3_; clear hb hbox hg; have hcz12_0 : w11.cell? ⟨gb106, 0, none⟩ = some (.int .i64 a0_0) := (blk_cell BK106.out 0).trans rfl; have hcz12_1 : w11.cell? ⟨gb106, 1, none⟩ = some (.int .u64 a0_1) := (blk_cell BK106.out 1).trans rfl; have hcz12_2 : w11.cell? ⟨gb106, 2, none⟩ = some (.bool a0_2) := (blk_cell BK106.out 2).trans rfl; have hfz12_0 := blk_frozen BK106.out 0; have hfz12_1 := blk_frozen BK106.out 1; have hfz12_2 := blk_frozen BK106.out 2) | ((with_reducible refine gate_callee (f := 28) rfl ?_); refine goesL_ (some 4) rfl rfl Tryd.func28 (by kernel_rfl) rfl #[.agg #[.int .i64 a0_0, .int .u64 a0_1, .bool a0_2]] rfl (by (try simp only [List.map_toArray, List.map_cons, List.map_nil]); first | done | rfl | (simp only [List.length_drop, List.length_take]; rfl)) ?_; (with_reducible refine (plumblaw16_Item_wide.calls a0_0 a0_1 a0_2 t107 _ A2.out).mono ?_); rintro e w13 ⟨rfl, hb⟩; refine ⟨_, rfl, ?_⟩; have n0_ := Aside0.mk (blk_below (g := gb106) (o := .cells #[.int .i64 a0_0, .int .u64 a0_1, .bool a0_2] 43 (0, 0)) (by (with_reducible repeat (first | refine blk_drewN ?_ _ | refine blk_drew ?_ | refine blk_alloc ?_ _)); exact BK106.out) hb); have n1_ := Aside0.mk (below_step (by repeat (first | (with_reducible first | exact HB.out | apply below_alloc | apply pw_below_drewN | apply below_drew1 | refine below_set ?_ GE106.out) | exact HB.out)) hb); clear BK106; clear HB; have BK106 := n0_; have HB := n1_; clear n0_ n1_; (try clear hb); (try clear hb2); (try clear hk); (try clear hi)))
      go_ret
      exact ⟨by first | rfl | (simp [errW_none, errW_some] <;> rfl) | (simp [*, errW_none, errW_some] <;> rfl), by repeat (first | (with_reducible first | exact HB.out | apply below_alloc | apply pw_below_drewN | apply below_drew1 | refine below_set ?_ GE106.out) | exact HB.out)⟩

/-! ### octet_Reader_Word32: function 19 -/
def octet_Reader_Word32.f (s0_0 : List Int) (s0_1 : Int) (s0_2 : Bool) (a1 : Bool) : Option (Int × Int × Bool) := (octet_Reader_take.f s0_0 s0_1 s0_2 4 a1).bind fun bt108 => (some ((bt108.1) % 4294967296, bt108.2.1, bt108.2.2))
set_option maxHeartbeats 8000000 in
set_option maxRecDepth 100000 in
theorem octet_Reader_Word32.calls (g : Nat) (s0_0 : List Int) (s0_1 : Int) (s0_2 : Bool) (a1 : Bool) (r1 : Int) (r2 : Int) (r3 : Bool) (w0 w : World) (hI : IsS63 w0 w g s0_0 s0_1 s0_2) (hB : Below w0.heap.size w0 w) (h : octet_Reader_Word32.f s0_0 s0_1 s0_2 a1 = some (r1, r2, r3)) :
    Calls Tryd.prog 19 #[.pointer (some ⟨g, 0, none⟩), .bool a1] w fun e w' => e = .returned (.int .u32 r1) ∧ IsS63 w0 w' g s0_0 r2 r3 ∧ Below w0.heap.size w0 w' ∧ KeepBut w w' g none := by
  have HI0 := Aside0.mk hI
  have HK := Aside0.mk (KeepBut.refl w g none)
  have HL := Aside0.mk hB.size
  clear hI
  have HW0 := Aside0.mk hB.size
  have HB := Aside0.mk hB
  clear hB
  have H : ((octet_Reader_take.f s0_0 s0_1 s0_2 4 a1).bind fun bt108 => (some ((bt108.1) % 4294967296, bt108.2.1, bt108.2.2))) = some (r1, r2, r3) := h
  clear h
  replace H := Option.bind_eq_some_iff.mp H
  obtain ⟨⟨t108, t109, t110⟩, A30, H⟩ := H
  replace H : (some ((t108) % 4294967296, t109, t110)) = some (r1, r2, r3) := H
  have A3 := Aside0.mk A30
  clear A30
  simp only [Option.some.injEq, Prod.mk.injEq] at H
  obtain ⟨rfl, rfl, rfl⟩ := H
  go_enter Tryd.func19, Tryd.ntmps19
  go_wp2_with (first | ((with_reducible refine gate_callee (f := 33) rfl ?_); refine goesL_ (some 7) rfl rfl Tryd.func33 (by kernel_rfl) rfl #[.pointer (some ⟨g, 0, none⟩), .int .i64 4, .bool a1] rfl (by (try simp only [List.map_toArray, List.map_cons, List.map_nil]); first | done | rfl | (simp only [List.length_drop, List.length_take]; rfl)) ?_; (with_reducible refine (octet_Reader_take.calls g s0_0 s0_1 s0_2 4 a1 t108 t109 t110 w0 _ ?side1 ?side2 A3.out).mono ?_); (case side1 => repeat (first | (with_reducible first | exact HI0.out | apply IsS63.alloc | apply IsS63.drewN | apply IsS63.drew | apply IsS63.set_1 | apply IsS63.set_2) | exact HI0.out)); (case side2 => repeat (first | (with_reducible first | exact HB.out | apply below_alloc | apply pw_below_drewN | apply below_drew1 | refine below_set ?_ (IsS63.ge HI0.out)) | exact HB.out)); rintro e w4 ⟨rfl, hi, hb, hk⟩; refine ⟨_, rfl, ?_⟩; have n0_ := Aside0.mk (KeepBut.trans (by repeat (first | (with_reducible first | exact HK.out | apply KeepBut.set_ | apply keep_drewN | apply keep_drew | apply keep_alloc) | exact HK.out)) hk (.inl rfl)); have n1_ := Aside0.mk (hb); have n2_ := Aside0.mk (hi); clear HK; clear HB; clear HI0; have HK := n0_; have HB := n1_; have HI0 := n2_; clear n0_ n1_ n2_; (try clear hb); (try clear hb2); (try clear hk); (try clear hi)))
  go_ret
  exact ⟨by first | rfl | (simp [errW_none, errW_some] <;> rfl) | (simp [*, errW_none, errW_some] <;> rfl), by repeat (first | (with_reducible first | exact HI0.out | apply IsS63.alloc | apply IsS63.drewN | apply IsS63.drew | apply IsS63.set_1 | apply IsS63.set_2) | exact HI0.out), by repeat (first | (with_reducible first | exact HB.out | apply below_alloc | apply pw_below_drewN | apply below_drew1 | refine below_set ?_ (IsS63.ge HI0.out)) | exact HB.out), by repeat (first | (with_reducible first | exact HK.out | apply KeepBut.set_ | apply keep_drewN | apply keep_drew | apply keep_alloc) | exact HK.out)⟩

/-! ### octet_Reader_Word64: function 20 -/
def octet_Reader_Word64.f (s0_0 : List Int) (s0_1 : Int) (s0_2 : Bool) (a1 : Bool) : Option (Int × Int × Bool) := (octet_Reader_take.f s0_0 s0_1 s0_2 8 a1).bind fun bt111 => (some (bt111.1, bt111.2.1, bt111.2.2))
set_option maxHeartbeats 8000000 in
set_option maxRecDepth 100000 in
theorem octet_Reader_Word64.calls (g : Nat) (s0_0 : List Int) (s0_1 : Int) (s0_2 : Bool) (a1 : Bool) (r1 : Int) (r2 : Int) (r3 : Bool) (w0 w : World) (hI : IsS63 w0 w g s0_0 s0_1 s0_2) (hB : Below w0.heap.size w0 w) (h : octet_Reader_Word64.f s0_0 s0_1 s0_2 a1 = some (r1, r2, r3)) :
    Calls Tryd.prog 20 #[.pointer (some ⟨g, 0, none⟩), .bool a1] w fun e w' => e = .returned (.int .u64 r1) ∧ IsS63 w0 w' g s0_0 r2 r3 ∧ Below w0.heap.size w0 w' ∧ KeepBut w w' g none := by
  have HI0 := Aside0.mk hI
  have HK := Aside0.mk (KeepBut.refl w g none)
  have HL := Aside0.mk hB.size
  clear hI
  have HW0 := Aside0.mk hB.size
  have HB := Aside0.mk hB
  clear hB
  have H : ((octet_Reader_take.f s0_0 s0_1 s0_2 8 a1).bind fun bt111 => (some (bt111.1, bt111.2.1, bt111.2.2))) = some (r1, r2, r3) := h
  clear h
  replace H := Option.bind_eq_some_iff.mp H
  obtain ⟨⟨t111, t112, t113⟩, A30, H⟩ := H
  replace H : (some (t111, t112, t113)) = some (r1, r2, r3) := H
  have A3 := Aside0.mk A30
  clear A30
  simp only [Option.some.injEq, Prod.mk.injEq] at H
  obtain ⟨rfl, rfl, rfl⟩ := H
  go_enter Tryd.func20, Tryd.ntmps20
  go_wp2_with (first | ((with_reducible refine gate_callee (f := 33) rfl ?_); refine goesL_ (some 7) rfl rfl Tryd.func33 (by kernel_rfl) rfl #[.pointer (some ⟨g, 0, none⟩), .int .i64 8, .bool a1] rfl (by (try simp only [List.map_toArray, List.map_cons, List.map_nil]); first | done | rfl | (simp only [List.length_drop, List.length_take]; rfl)) ?_; (with_reducible refine (octet_Reader_take.calls g s0_0 s0_1 s0_2 8 a1 t111 t112 t113 w0 _ ?side1 ?side2 A3.out).mono ?_); (case side1 => repeat (first | (with_reducible first | exact HI0.out | apply IsS63.alloc | apply IsS63.drewN | apply IsS63.drew | apply IsS63.set_1 | apply IsS63.set_2) | exact HI0.out)); (case side2 => repeat (first | (with_reducible first | exact HB.out | apply below_alloc | apply pw_below_drewN | apply below_drew1 | refine below_set ?_ (IsS63.ge HI0.out)) | exact HB.out)); rintro e w4 ⟨rfl, hi, hb, hk⟩; refine ⟨_, rfl, ?_⟩; have n0_ := Aside0.mk (KeepBut.trans (by repeat (first | (with_reducible first | exact HK.out | apply KeepBut.set_ | apply keep_drewN | apply keep_drew | apply keep_alloc) | exact HK.out)) hk (.inl rfl)); have n1_ := Aside0.mk (hb); have n2_ := Aside0.mk (hi); clear HK; clear HB; clear HI0; have HK := n0_; have HB := n1_; have HI0 := n2_; clear n0_ n1_ n2_; (try clear hb); (try clear hb2); (try clear hk); (try clear hi)))
  go_ret
  exact ⟨by first | rfl | (simp [errW_none, errW_some] <;> rfl) | (simp [*, errW_none, errW_some] <;> rfl), by repeat (first | (with_reducible first | exact HI0.out | apply IsS63.alloc | apply IsS63.drewN | apply IsS63.drew | apply IsS63.set_1 | apply IsS63.set_2) | exact HI0.out), by repeat (first | (with_reducible first | exact HB.out | apply below_alloc | apply pw_below_drewN | apply below_drew1 | refine below_set ?_ (IsS63.ge HI0.out)) | exact HB.out), by repeat (first | (with_reducible first | exact HK.out | apply KeepBut.set_ | apply keep_drewN | apply keep_drew | apply keep_alloc) | exact HK.out)⟩

/-! ### octet_put_uint32: function 40, by hand -/
def octet_put_uint32.out (l : List Int) (v : Int) (le : Bool) : List Int := if le = true then l ++ [v % 256, v / 256 % 256, v / 65536 % 256, v / 16777216 % 256] else l ++ [v / 16777216 % 256, v / 65536 % 256, v / 256 % 256, v % 256]
def octet_put_uint32.f (l0 : List Int) (a1 : Int) (a2 : Int) (a3 : Bool) : Option (List Int) := if a2 = 4 ∧ l0.length ≤ 140737488355316 then some (octet_put_uint32.out l0 a1 a3) else none
theorem octet_put_uint32.sets (l zs : List Int) (L : Int) (hL : (l.length : Int) = L) (hz : zs.length = l.length + 4) (x0 x1 x2 x3 : Int) : (((((l.take zs.length ++ zs.drop l.length).set L.toNat x0).set (L + 1).toNat x1).set (L + 2).toNat x2).set (L + 3).toNat x3) = l ++ [x0, x1, x2, x3] := by
  subst hL
  have hd : (zs.drop l.length).length = 4 := by rw [List.length_drop]; omega
  obtain ⟨ws, hw⟩ : ∃ ws, zs.drop l.length = ws := ⟨_, rfl⟩
  rw [hw] at hd ⊢
  rw [List.take_of_length_le (by omega)]
  obtain ⟨y0, y1, y2, y3, rfl⟩ : ∃ y0 y1 y2 y3, ws = [y0, y1, y2, y3] := by
    match ws, hd with
    | [y0, y1, y2, y3], _ => exact ⟨y0, y1, y2, y3, rfl⟩
  rw [show ((l.length : Int)).toNat = l.length + 0 from by omega, List.set_append_right _ _ (by omega), Nat.add_sub_cancel_left]
  rw [show ((l.length : Int) + 1).toNat = l.length + 1 from by omega, List.set_append_right _ _ (by omega), Nat.add_sub_cancel_left]
  rw [show ((l.length : Int) + 2).toNat = l.length + 2 from by omega, List.set_append_right _ _ (by omega), Nat.add_sub_cancel_left]
  rw [show ((l.length : Int) + 3).toNat = l.length + 3 from by omega, List.set_append_right _ _ (by omega), Nat.add_sub_cancel_left]
  rfl
def octet_put_uint32_stop (p : Prop) : Prop := p
theorem octet_put_uint32_put_stop {p : Prop} (h : octet_put_uint32_stop p) : p := h
set_option maxHeartbeats 4000000 in
set_option maxRecDepth 100000 in
theorem octet_put_uint32.any (A0 : Option Addr) (c0 : Nat) (l : List Int) (v : Int) (le : Bool) (w : World) (hr0 : Kd.C (Kd.int .u8) w A0 l.length l) (hc0 : l.length ≤ c0) (hl : l.length ≤ 140737488355316) :
    Calls Tryd.prog 40 #[.slice A0 l.length c0, .int .u32 v, .int .i64 4, .bool le] w fun e w' => ∃ v0_ : Value, e = .returned (v0_) ∧ Kd.R (Kd.int .u8) 5 w' w.heap.size (fun _ => True) v0_ (octet_put_uint32.out l v le) ∧ Below w.heap.size w w' := by
  have HR0 := Aside0.mk hr0
  have HC0 := Aside0.mk hc0
  have HL := Aside0.mk hl
  have hn : wrap64 ((l.length : Int) + 4) = (l.length : Int) + 4 := by unfold wrap64; omega
  have HN := Aside0.mk hn
  clear hr0 hc0 hl hn
  go_enter Tryd.func40, Tryd.ntmps40
  go_wp2_with (first
    | ((with_reducible refine gate_dst (N := 17) rfl ?_); refine Kd.R_make (Kd.int .u8) (w0 := w) w.heap.size 5 rfl (N := 17) rfl 22 _ _ rfl (wrap64 ((l.length : Int) + 4)) rfl rfl Tryd.underlying22 (.int .u8 0) 1 info5 rfl (by decide) (by omega) 0 (ok := fun _ => True) (okp := fun _ => False) rfl (fun _ h => h.elim) True.intro (by have := HN.out; omega) ?aL (Below.refl _ _) (Nat.le_refl _) ?_; (case aL => have := HL.out; have := HN.out; omega)
       intro v1 w1 ho hb hg hat
       obtain ⟨zs, hzs, hzl⟩ : ∃ zs, List.replicate (wrap64 ((l.length : Int) + 4)).toNat (0 : Int) = zs ∧ zs.length = l.length + 4 := ⟨_, rfl, by rw [List.length_replicate, HN.out]; omega⟩
       rw [hzs] at ho
       obtain ⟨g, cap, rfl⟩ := Go.Proofs.YtenomaibgpbonaaDoor.Math.R_shape ho hat
       have HO := Aside0.mk ho
       have HB := Aside0.mk hb
       have HZ := Aside0.mk hzs
       have HZL := Aside0.mk hzl
       clear ho hb hg hat hzs hzl)
    | ((with_reducible refine gate_builtin (b := .copy) (xs := #[.tmp 18, .tmp 19]) rfl ?_); refine Go.Proofs.YtenomaibgpbonaaDoor.Math.R_copy (w0 := w) (base := w.heap.size) 0 rfl (.tmp 18) (.tmp 19) 22 rfl Tryd.underlying22 (e := 5) ?sz zs l A0 l.length c0 rfl rfl HO.out (Kd.C_below HR0.out HB.out) HB.out ?_; (case sz => kernel_rfl)
       intro w2 ho hb hg
       rw [show min l.length zs.length = l.length from by rw [HZL.out]; omega]
       have HP := Aside0.mk ho
       have HB2 := Aside0.mk hb
       clear ho hb hg))
  have hb0 := HL.out
  have hzl := HZL.out
  obtain ⟨ys, hys⟩ : ∃ ys, l.take zs.length ++ zs.drop l.length = ys := ⟨_, rfl⟩
  have HY := Aside0.mk hys
  have hp := HP.out
  rw [hys, hzl] at hp
  clear HP HO HB HZ hys
  have HP0 := Aside0.mk hp
  clear hp
  obtain ⟨L, hL⟩ : ∃ L : Int, (l.length : Int) = L := ⟨_, rfl⟩
  have q0 : wrap64 (L + 0) = L := by unfold wrap64; omega
  have q1 : wrap64 (L + 1) = L + 1 := by unfold wrap64; omega
  have q2 : wrap64 (L + 2) = L + 2 := by unfold wrap64; omega
  have q3 : wrap64 (L + 3) = L + 3 := by unfold wrap64; omega
  cases le
  · refine wp_loop_rounds 5 ?_
    rw [rounds_succ]
    obtain ⟨hy, hz⟩ := Kd.R_celln (0 : Int) HP0.out L (by omega) (by omega)
    have HQ := Aside0.mk (Kd.R_putg HP0.out L (v / 16777216 % 256))
    have HC := Aside0.mk (below_set (v := .int .u8 (v / 16777216 % 256)) (j := L.toNat) HB2.out (Kd.R_base HP0.out g rfl))
    go_wp2_with ((with_reducible refine gate_store (t := 5) (p := 42) rfl ?_); refine octet_put_uint32_put_stop ?_)
    unfold octet_put_uint32_stop
    refine store_event (t := 5) (p := 42) (v := .tmp 41) (w1 := w2.setCell ⟨g, L.toNat, none⟩ (.int .u8 (v / 16777216 % 256))) rfl rfl rfl (by first | (go_simp; done) | (go_simp; rfl)) ?_
    intro w3 hw
    have hq := HQ.out.1; rw [← hw] at hq; have HP1 := Aside0.mk hq; have hc := HC.out; rw [← hw] at hc; have HB3 := Aside0.mk hc; clear hq hc hw hy hz HQ HC HP0 HB2
    go_wp2_with fail
    rw [rounds_succ]
    obtain ⟨hy, hz⟩ := Kd.R_celln (0 : Int) HP1.out (L + 1) (by omega) (by omega)
    have HQ := Aside0.mk (Kd.R_putg HP1.out (L + 1) (v / 65536 % 256))
    have HC := Aside0.mk (below_set (v := .int .u8 (v / 65536 % 256)) (j := (L + 1).toNat) HB3.out (Kd.R_base HP1.out g rfl))
    go_wp2_with ((with_reducible refine gate_store (t := 5) (p := 42) rfl ?_); refine octet_put_uint32_put_stop ?_)
    unfold octet_put_uint32_stop
    refine store_event (t := 5) (p := 42) (v := .tmp 41) (w1 := w3.setCell ⟨g, (L + 1).toNat, none⟩ (.int .u8 (v / 65536 % 256))) rfl rfl rfl (by first | (go_simp; done) | (go_simp; rfl)) ?_
    intro w4 hw
    have hq := HQ.out.1; rw [← hw] at hq; have HP2 := Aside0.mk hq; have hc := HC.out; rw [← hw] at hc; have HB4 := Aside0.mk hc; clear hq hc hw hy hz HQ HC HP1 HB3
    go_wp2_with fail
    rw [rounds_succ]
    obtain ⟨hy, hz⟩ := Kd.R_celln (0 : Int) HP2.out (L + 2) (by omega) (by omega)
    have HQ := Aside0.mk (Kd.R_putg HP2.out (L + 2) (v / 256 % 256))
    have HC := Aside0.mk (below_set (v := .int .u8 (v / 256 % 256)) (j := (L + 2).toNat) HB4.out (Kd.R_base HP2.out g rfl))
    go_wp2_with ((with_reducible refine gate_store (t := 5) (p := 42) rfl ?_); refine octet_put_uint32_put_stop ?_)
    unfold octet_put_uint32_stop
    refine store_event (t := 5) (p := 42) (v := .tmp 41) (w1 := w4.setCell ⟨g, (L + 2).toNat, none⟩ (.int .u8 (v / 256 % 256))) rfl rfl rfl (by first | (go_simp; done) | (go_simp; rfl)) ?_
    intro w5 hw
    have hq := HQ.out.1; rw [← hw] at hq; have HP3 := Aside0.mk hq; have hc := HC.out; rw [← hw] at hc; have HB5 := Aside0.mk hc; clear hq hc hw hy hz HQ HC HP2 HB4
    go_wp2_with fail
    rw [rounds_succ]
    obtain ⟨hy, hz⟩ := Kd.R_celln (0 : Int) HP3.out (L + 3) (by omega) (by omega)
    have HQ := Aside0.mk (Kd.R_putg HP3.out (L + 3) (v % 256))
    have HC := Aside0.mk (below_set (v := .int .u8 (v % 256)) (j := (L + 3).toNat) HB5.out (Kd.R_base HP3.out g rfl))
    go_wp2_with ((with_reducible refine gate_store (t := 5) (p := 42) rfl ?_); refine octet_put_uint32_put_stop ?_)
    unfold octet_put_uint32_stop
    refine store_event (t := 5) (p := 42) (v := .tmp 41) (w1 := w5.setCell ⟨g, (L + 3).toNat, none⟩ (.int .u8 (v % 256))) rfl rfl rfl (by first | (go_simp; done) | (go_simp; rfl)) ?_
    intro w6 hw
    have hq := HQ.out.1; rw [← hw] at hq; have HP4 := Aside0.mk hq; have hc := HC.out; rw [← hw] at hc; have HB6 := Aside0.mk hc; clear hq hc hw hy hz HQ HC HP3 HB5
    go_wp2_with fail
    rw [rounds_succ]
    go_wp2_with fail
    go_ret
    refine ⟨_, rfl, ?_, HB6.out⟩
    have e := HP4.out
    rw [← HY.out, octet_put_uint32.sets l zs L hL hzl, ← hzl] at e
    exact e
  · refine wp_loop_rounds 5 ?_
    rw [rounds_succ]
    obtain ⟨hy, hz⟩ := Kd.R_celln (0 : Int) HP0.out L (by omega) (by omega)
    have HQ := Aside0.mk (Kd.R_putg HP0.out L (v % 256))
    have HC := Aside0.mk (below_set (v := .int .u8 (v % 256)) (j := L.toNat) HB2.out (Kd.R_base HP0.out g rfl))
    go_wp2_with ((with_reducible refine gate_store (t := 5) (p := 42) rfl ?_); refine octet_put_uint32_put_stop ?_)
    unfold octet_put_uint32_stop
    refine store_event (t := 5) (p := 42) (v := .tmp 41) (w1 := w2.setCell ⟨g, L.toNat, none⟩ (.int .u8 (v % 256))) rfl rfl rfl (by first | (go_simp; done) | (go_simp; rfl)) ?_
    intro w3 hw
    have hq := HQ.out.1; rw [← hw] at hq; have HP1 := Aside0.mk hq; have hc := HC.out; rw [← hw] at hc; have HB3 := Aside0.mk hc; clear hq hc hw hy hz HQ HC HP0 HB2
    go_wp2_with fail
    rw [rounds_succ]
    obtain ⟨hy, hz⟩ := Kd.R_celln (0 : Int) HP1.out (L + 1) (by omega) (by omega)
    have HQ := Aside0.mk (Kd.R_putg HP1.out (L + 1) (v / 256 % 256))
    have HC := Aside0.mk (below_set (v := .int .u8 (v / 256 % 256)) (j := (L + 1).toNat) HB3.out (Kd.R_base HP1.out g rfl))
    go_wp2_with ((with_reducible refine gate_store (t := 5) (p := 42) rfl ?_); refine octet_put_uint32_put_stop ?_)
    unfold octet_put_uint32_stop
    refine store_event (t := 5) (p := 42) (v := .tmp 41) (w1 := w3.setCell ⟨g, (L + 1).toNat, none⟩ (.int .u8 (v / 256 % 256))) rfl rfl rfl (by first | (go_simp; done) | (go_simp; rfl)) ?_
    intro w4 hw
    have hq := HQ.out.1; rw [← hw] at hq; have HP2 := Aside0.mk hq; have hc := HC.out; rw [← hw] at hc; have HB4 := Aside0.mk hc; clear hq hc hw hy hz HQ HC HP1 HB3
    go_wp2_with fail
    rw [rounds_succ]
    obtain ⟨hy, hz⟩ := Kd.R_celln (0 : Int) HP2.out (L + 2) (by omega) (by omega)
    have HQ := Aside0.mk (Kd.R_putg HP2.out (L + 2) (v / 65536 % 256))
    have HC := Aside0.mk (below_set (v := .int .u8 (v / 65536 % 256)) (j := (L + 2).toNat) HB4.out (Kd.R_base HP2.out g rfl))
    go_wp2_with ((with_reducible refine gate_store (t := 5) (p := 42) rfl ?_); refine octet_put_uint32_put_stop ?_)
    unfold octet_put_uint32_stop
    refine store_event (t := 5) (p := 42) (v := .tmp 41) (w1 := w4.setCell ⟨g, (L + 2).toNat, none⟩ (.int .u8 (v / 65536 % 256))) rfl rfl rfl (by first | (go_simp; done) | (go_simp; rfl)) ?_
    intro w5 hw
    have hq := HQ.out.1; rw [← hw] at hq; have HP3 := Aside0.mk hq; have hc := HC.out; rw [← hw] at hc; have HB5 := Aside0.mk hc; clear hq hc hw hy hz HQ HC HP2 HB4
    go_wp2_with fail
    rw [rounds_succ]
    obtain ⟨hy, hz⟩ := Kd.R_celln (0 : Int) HP3.out (L + 3) (by omega) (by omega)
    have HQ := Aside0.mk (Kd.R_putg HP3.out (L + 3) (v / 16777216 % 256))
    have HC := Aside0.mk (below_set (v := .int .u8 (v / 16777216 % 256)) (j := (L + 3).toNat) HB5.out (Kd.R_base HP3.out g rfl))
    go_wp2_with ((with_reducible refine gate_store (t := 5) (p := 42) rfl ?_); refine octet_put_uint32_put_stop ?_)
    unfold octet_put_uint32_stop
    refine store_event (t := 5) (p := 42) (v := .tmp 41) (w1 := w5.setCell ⟨g, (L + 3).toNat, none⟩ (.int .u8 (v / 16777216 % 256))) rfl rfl rfl (by first | (go_simp; done) | (go_simp; rfl)) ?_
    intro w6 hw
    have hq := HQ.out.1; rw [← hw] at hq; have HP4 := Aside0.mk hq; have hc := HC.out; rw [← hw] at hc; have HB6 := Aside0.mk hc; clear hq hc hw hy hz HQ HC HP3 HB5
    go_wp2_with fail
    rw [rounds_succ]
    go_wp2_with fail
    go_ret
    refine ⟨_, rfl, ?_, HB6.out⟩
    have e := HP4.out
    rw [← HY.out, octet_put_uint32.sets l zs L hL hzl, ← hzl] at e
    exact e
theorem octet_put_uint32.calls (A0 : Option Addr) (c0 : Nat) (l0 : List Int) (a1 : Int) (a2 : Int) (a3 : Bool) (r : List Int) (w : World) (hr0 : Kd.C (Kd.int .u8) w A0 l0.length l0) (hc0 : l0.length ≤ c0) (h : octet_put_uint32.f l0 a1 a2 a3 = some r) :
    Calls Tryd.prog 40 #[.slice A0 l0.length c0, .int .u32 a1, .int .i64 a2, .bool a3] w fun e w' => ∃ v0_ : Value, e = .returned (v0_) ∧ Kd.R (Kd.int .u8) 5 w' w.heap.size (fun _ => True) v0_ r ∧ Below w.heap.size w w' := by
  unfold octet_put_uint32.f at h
  by_cases c : a2 = 4 ∧ l0.length ≤ 140737488355316
  · rw [if_pos c] at h
    obtain rfl := Option.some.inj h
    obtain ⟨rfl, hl⟩ := c
    exact octet_put_uint32.any A0 c0 l0 a1 a3 w hr0 hc0 hl
  · rw [if_neg c] at h
    exact absurd h (by simp)

/-! ### octet_Put32: function 36 -/
def octet_Put32.f (l0 : List Int) (a1 : Int) (a2 : Bool) : Option (List Int) := (octet_put_uint32.f l0 a1 4 a2).bind fun t114 => (some t114)
set_option maxHeartbeats 8000000 in
set_option maxRecDepth 100000 in
theorem octet_Put32.calls (A0 : Option Addr) (c0 : Nat) (l0 : List Int) (a1 : Int) (a2 : Bool) (r : List Int) (w : World) (hr0 : Kd.C (Kd.int .u8) w A0 l0.length l0) (hc0 : l0.length ≤ c0) (h : octet_Put32.f l0 a1 a2 = some r) :
    Calls Tryd.prog 36 #[.slice A0 l0.length c0, .int .u32 a1, .bool a2] w fun e w' => ∃ v0_ : Value, e = .returned (v0_) ∧ Kd.R (Kd.int .u8) 5 w' w.heap.size (fun _ => True) v0_ r ∧ Below w.heap.size w w' := by
  have HR0 := Aside0.mk hr0
  have HC0 := Aside0.mk hc0
  clear hr0 hc0
  have HB := Aside0.mk (Below.refl w.heap.size w)
  have H : ((octet_put_uint32.f l0 a1 4 a2).bind fun t114 => (some t114)) = some r := h
  clear h
  replace H := Option.bind_eq_some_iff.mp H
  obtain ⟨t114, A40, H⟩ := H
  replace H : (some t114) = some r := H
  have A4 := Aside0.mk A40
  clear A40
  obtain rfl := Option.some.inj H
  go_enter Tryd.func36, Tryd.ntmps36
  go_wp2_with (first | ((with_reducible refine gate_callee (f := 40) rfl ?_); refine goesL_ (some 10) rfl rfl Tryd.func40 (by kernel_rfl) rfl #[.slice A0 l0.length c0, .int .u32 a1, .int .i64 4, .bool a2] rfl (by (try simp only [List.map_toArray, List.map_cons, List.map_nil]); first | done | rfl | (simp only [List.length_drop, List.length_take]; rfl)) ?_; (with_reducible refine (octet_put_uint32.calls _ _ l0 a1 4 a2 t114 _ ?side1 ?side2 A4.out).mono ?_); (case side1 => repeat (first | exact HR0.out | (with_reducible refine Kd.C_alloc ?_ _) | (with_reducible refine Kd.C_drewN ?_ _) | (with_reducible refine Kd.C_drew ?_))); (case side2 => exact HC0.out); rintro e w5 ⟨v115, rfl, ho0, hb⟩; refine ⟨_, rfl, ?_⟩; have n0_ := Aside0.mk (Kd.R_lower ho0 (below_size (by repeat (first | (with_reducible first | exact HB.out | apply below_alloc | apply pw_below_drewN | apply below_drew1) | exact HB.out)))); have n1_ := Aside0.mk (below_step (by repeat (first | (with_reducible first | exact HB.out | apply below_alloc | apply pw_below_drewN | apply below_drew1) | exact HB.out)) hb); clear HB; have HO116 := n0_; have HB := n1_; clear n0_ n1_; (try clear hb); (try clear hb2); (try clear hk); (try clear hi); (try clear ho0)))
  go_ret
  exact ⟨_, by first | rfl | (simp [errW_none, errW_some] <;> rfl) | (simp [*, errW_none, errW_some] <;> rfl), by (with_reducible repeat (first | apply Kd.R_alloc | apply Kd.R_drewN | apply Kd.R_drew)); exact HO116.out, by repeat (first | (with_reducible first | exact HB.out | apply below_alloc | apply pw_below_drewN | apply below_drew1) | exact HB.out)⟩

end Go.Proofs.YtenomaibgpbonaaDoor.POctetBack
