/- The iterator over all geometries of a tree, by its contract. No conditions but those told. -/
import Derived.Test.YtiiolhnpnlmkjaaDoorTFence
import Derived.Test.YtiiolhnpnlmkjaaDoorTLeaf
namespace Go.Proofs.YtiiolhnpnlmkjaaDoor.Tree
open Go.RowKit Go.Proofs.YtiiolhnpnlmkjaaDoorW.PrintWords Go.Proofs.YtiiolhnpnlmkjaaDoorW.PrintLast Go.Proofs.YtiiolhnpnlmkjaaDoorW.PrintMore
set_option linter.unusedVariables false
set_option linter.unusedSimpArgs false
attribute [local go_sem] Oper.semAt_some
/-- A geometry where it stands. -/
structure Spot where
  ad : Addr
  lvl : Int
  of_ : Int
  g : Ge
def Spot.enc (x : Spot) : Value := .agg #[.pointer (some x.ad), .int .i64 x.lvl, .int .i64 x.of_]
def Spot.it (x : Spot) : It := ⟨x.g, x.lvl, x.of_⟩
/-- What a round that goes on keeps: what lay below, and the iterator's own boxes. -/
structure KpS (n₀ : Nat) (W W' : World) : Prop where
  below : Below n₀ W W'
  box : ∀ (k : Nat) (cs : Array Value), W.heap[k]? = some (.cells cs 123 (0, 0)) → W'.heap[k]? = some (.cells cs 123 (0, 0))
theorem KpS.refl (n₀ : Nat) (W : World) : KpS n₀ W W := ⟨Below.refl _ _, fun _ _ h => h⟩
theorem KpS.trans {n₀ : Nat} {A B C : World} (h : KpS n₀ A B) (k : KpS n₀ B C) : KpS n₀ A C := ⟨h.below.trans k.below, fun i cs hi => k.box i cs (h.box i cs hi)⟩
theorem KpS.of_below {n₀ : Nat} {W W' : World} (h : Below W.heap.size W W') (hn : n₀ ≤ W.heap.size) : KpS n₀ W W' := ⟨h.mono hn, fun k cs hk => (h.block k (blk_lt hk)).trans hk⟩
theorem KpS.alloc {n₀ : Nat} {A W : World} (h : KpS n₀ A W) (hn : n₀ ≤ W.heap.size) (o : Obj) : KpS n₀ A (W.alloc o) := h.trans (KpS.of_below (below_alloc (Below.refl _ _) o) hn)
theorem KpS.drew {n₀ : Nat} {A W : World} (h : KpS n₀ A W) : KpS n₀ A W.drew := ⟨h.below.drew, h.box⟩
/-- A store into a block of another type. -/
theorem KpS.set {n₀ : Nat} {A W : World} (h : KpS n₀ A W) {g t j : Nat} {cs : Array Value} (hb : W.heap[g]? = some (.cells cs t (0, 0))) (ht : t ≠ 123) (hn : n₀ ≤ g) (v : Value) : KpS n₀ A (W.setCell ⟨g, j, none⟩ v) :=
  ⟨h.below.setCell hn v, fun k cs' hk => by
    have h1 := h.box k cs' hk
    by_cases e : k = g
    · subst e; rw [hb] at h1; injection h1 with h1; injection h1 with _ h1; exact absurd h1 ht
    · exact (Below.heap_setCell W ⟨g, j, none⟩ v k e).trans h1⟩
/-- Another row has grown. -/
theorem KpS.grown {n₀ : Nat} {A W W' : World} (h : KpS n₀ A W) {row : Option Nat} (hg : W.grownBy W' row) (hn : n₀ ≤ W.heap.size) (hr : ∀ k, row = some k → n₀ ≤ k ∧ ∃ cs t, W.heap[k]? = some (.cells cs t (0, 0)) ∧ t ≠ 123) : KpS n₀ A W' :=
  ⟨h.below.grown hg (by exact hn) (fun k e => (hr k e).1), fun k cs' hk => by
    have h1 := h.box k cs' hk
    refine (hg.block k (blk_lt h1) (fun e => ?_)).trans h1
    obtain ⟨_, cs, t, h2, ht⟩ := hr k e.symm
    rw [h1] at h2; injection h2 with h2; injection h2 with _ h2; exact ht h2.symm⟩
theorem AbidesFrom.alloc_ {β : Type} {B : Nat} {J : β → World → Prop} (hJ : AbidesFrom B J) {s : β} {W : World} (h : J s W) (o : Obj) : J s (W.alloc o) :=
  hJ s W _ none h (World.grownBy_alloc W o none) (fun r e => by cases e)
theorem AbidesFrom.drew_ {β : Type} {B : Nat} {J : β → World → Prop} (hJ : AbidesFrom B J) {s : β} {W : World} (h : J s W) : J s W.drew :=
  hJ s W _ none h (grown_of_below (below_drew (Below.refl _ _)) none) (fun r e => by cases e)
/-- The first k lists, one behind the other. -/
def firsts {α : Type} (Ls : Nat → List α) (k : Nat) : List α := ((List.range k).map Ls).flatten
theorem firsts_zero {α : Type} (Ls : Nat → List α) : firsts Ls 0 = [] := rfl
theorem firsts_succ {α : Type} (Ls : Nat → List α) (k : Nat) : firsts Ls (k + 1) = firsts Ls k ++ Ls k := by unfold firsts; rw [List.range_succ]; simp
theorem firsts_pre {α : Type} (Ls : Nat → List α) {k n : Nat} (h : k ≤ n) : ∃ r, firsts Ls n = firsts Ls k ++ r := by
  induction n with
  | zero => obtain rfl : k = 0 := by omega
            exact ⟨[], by simp⟩
  | succ n ih =>
    by_cases e : k = n + 1
    · subst e; exact ⟨[], by simp⟩
    · obtain ⟨r, hr⟩ := ih (by omega)
      exact ⟨r ++ Ls n, by rw [firsts_succ, hr, List.append_assoc]⟩
theorem firsts_mem {α : Type} (Ls : Nat → List α) {k n : Nat} (h : k < n) {x : α} (hx : x ∈ Ls k) : x ∈ firsts Ls n := by
  obtain ⟨r, hr⟩ := firsts_pre Ls (show k + 1 ≤ n from h)
  rw [hr, firsts_succ]; simp [hx]
theorem firsts_map (Ls : Nat → List Spot) (ps : List Ge) (lvl k : Int) (n : Nat) (hn : n = ps.length) (h : ∀ i (hi : i < ps.length), (Ls i).map Spot.it = nodes ps[i] lvl k) : (firsts Ls n).map Spot.it = nodesL ps lvl k := by
  subst hn
  rw [nodesL_flat]
  unfold firsts
  rw [List.map_flatten, List.map_map]
  congr 1
  apply List.ext_getElem
  · simp
  · intro i h1 h2
    simp only [List.getElem_map, List.getElem_range, Function.comp]
    exact h i (by simpa using h2)
/-- The walk over a tree, whatever the rounds do. -/
def WalkOK (n₀ : Nat) (w0 : World) (s : Spot) (L : List Spot) : Prop :=
  ∀ (M : List Spot), (∀ x ∈ L, x ∈ M) → ∀ (l N B : Nat) (J Jx : List Spot → World → Prop), AbidesFrom B J →
    (∀ m pre x W, x ∈ M → J pre W → pre.length < N → Below n₀ w0 W → YieldAt Fence.wide m Tryd.prog l #[x.enc] W fun e W' => (e = .returned (.bool true) ∧ J (pre ++ [x]) W' ∧ KpS n₀ W W') ∨ (e = .returned (.bool false) ∧ Jx (pre ++ [x]) W')) →
    ∀ (n : Nat) (pre : List Spot) (W : World), Below n₀ w0 W → J pre W → pre.length + L.length ≤ N →
      CallsIn Fence.wide n Tryd.prog 82 #[s.enc, .func (.yield l) #[] #[]] W fun e W' => (e = .returned (.bool true) ∧ J (pre ++ L) W' ∧ KpS n₀ W W') ∨ (e = .returned (.bool false) ∧ ∃ q, q <+: L ∧ Jx (pre ++ q) W')
set_option maxRecDepth 100000 in
set_option maxHeartbeats 4000000 in
theorem walk_ok (n₀ : Nat) (w0 : World) (hn₀ : w0.heap.size = n₀) (g : Ge) : ∀ (ad : Addr) (lvl of_ : Int), GAt w0 ad g → 0 ≤ lvl → lvl + g.bulk ≤ 4611686018427387904 → g.bulk ≤ 1073741824 →
    ∃ L : List Spot, L.map Spot.it = nodes g lvl of_ ∧ (∀ x ∈ L, GAt w0 x.ad x.g) ∧ WalkOK n₀ w0 ⟨ad, lvl, of_, g⟩ L := by
  induction g using Ge.ind with
  | h g ih =>
    intro ad lvl of_ hA hl0 hl1 hbk
    have hA' := hA
    obtain ⟨A1, c1, A2, c2, A3, c3, e0, e1, e2, e3, l1, h1, l2, h2, l3, h3⟩ := hA'
    have hbq := g.bulk_eq
    have hbl := bulks_len g.f3
    have hch : ∀ i : Nat, ∃ Li : List Spot, ∀ hi : i < g.f3.length, ∃ a3, A3 = some a3 ∧ Li.map Spot.it = nodes g.f3[i] (lvl + 1) g.f0 ∧ (∀ x ∈ Li, GAt w0 x.ad x.g) ∧ WalkOK n₀ w0 ⟨a3.add (i * 4), lvl + 1, g.f0, g.f3[i]⟩ Li := by
      intro i
      by_cases hi : i < g.f3.length
      · obtain ⟨a3, ea, hG⟩ := GAt.part h3 (i : Int) (by omega) (by omega)
        rw [rd_Ge_at _ _ hi, Int.toNat_natCast] at hG
        have hm := bulks_mem (List.getElem_mem hi)
        obtain ⟨Li, q1, q2, q3⟩ := ih g.f3[i] (List.getElem_mem hi) (a3.add (i * 4)) (lvl + 1) g.f0 hG (by omega) (by omega) (by omega)
        exact ⟨Li, fun _ => ⟨a3, ea, q1, q2, q3⟩⟩
      · exact ⟨[], fun h => absurd h hi⟩
    obtain ⟨Ls, hLs⟩ : ∃ Ls : Nat → List Spot, ∀ i, ∀ hi : i < g.f3.length, ∃ a3, A3 = some a3 ∧ (Ls i).map Spot.it = nodes g.f3[i] (lvl + 1) g.f0 ∧ (∀ x ∈ Ls i, GAt w0 x.ad x.g) ∧ WalkOK n₀ w0 ⟨a3.add (i * 4), lvl + 1, g.f0, g.f3[i]⟩ (Ls i) :=
      ⟨fun i => (hch i).choose, fun i => (hch i).choose_spec⟩
    clear hch ih
    refine ⟨⟨ad, lvl, of_, g⟩ :: firsts Ls g.f3.length, ?_, ?_, ?_⟩
    · rw [List.map_cons, nodes_eq, firsts_map Ls g.f3 (lvl + 1) g.f0 _ rfl (fun i hi => by obtain ⟨_, _, q, _⟩ := hLs i hi; exact q)]
      rfl
    · intro x hx
      rcases List.mem_cons.1 hx with rfl | hx
      · exact hA
      · unfold firsts at hx
        obtain ⟨y, hy, hxy⟩ := List.mem_flatten.1 hx
        obtain ⟨i, hi, rfl⟩ := List.mem_map.1 hy
        obtain ⟨_, _, _, q, _⟩ := hLs i (List.mem_range.1 hi)
        exact q x hxy
    · intro M hM l N B J Jx hJ hY n pre W hW hJ0 hN
      have hmx : Tryd.prog.follows .mixedOrders = true := by kernel_rfl
      have hlen : (firsts Ls g.f3.length).length + 1 + pre.length ≤ N := by simp only [List.length_cons] at hN; omega
      have hlt : n₀ ≤ W.heap.size := by have := hW.size; omega
      obtain ⟨W1, hW1⟩ : ∃ W1, W1 = W.alloc (.cells #[.pointer (some ad), .int .i64 lvl, .int .i64 of_] 123) := ⟨_, rfl⟩
      have hK1 : KpS n₀ W W1 := by rw [hW1]; exact (KpS.refl _ _).alloc hlt _
      have hbx : W1.heap[W.heap.size]? = some (.cells #[.pointer (some ad), .int .i64 lvl, .int .i64 of_] 123 (0, 0)) := by rw [hW1]; exact World.alloc_heap_new W _
      have hj1 : J pre W1 := by rw [hW1]; exact AbidesFrom.alloc_ hJ hJ0 _
      obtain ⟨fn, tmps, assign, body, hy, hR⟩ := hY (n - 1) pre ⟨ad, lvl, of_, g⟩ W1 (hM _ List.mem_cons_self) hj1 (by omega) (hW.trans hK1.below)
      dsimp only [Spot.enc] at hy
      rw [hW1] at hy
      refine callsIn_of_wp Tryd.func82 rfl trivial ?_ rfl
      simp only [Tryd.ntmps82, List.size_toArray, List.length_cons, List.length_nil, Nat.reduceAdd, Nat.reduceSub, Array.replicate_succ, Array.replicate_zero, List.push_toArray, List.append_toArray, List.nil_append, List.cons_append]
      dsimp only [Spot.enc]
      gi_wp2_with fail
      refine ⟨fun h => (by cases h), ?_⟩
      rw [← hW1]
      refine hR.mono ?_
      clear hR hy
      rintro e W2 (⟨rfl, hJ2, hK2⟩ | ⟨rfl, hx2⟩)
      · have hb2 := hK2.box _ _ hbx
        have s0 : W2.cell? ⟨W.heap.size, 0, none⟩ = some (.pointer (some ad)) := (blk_cell hb2 0).trans rfl
        have s1 : W2.cell? ⟨W.heap.size, 1, none⟩ = some (.int .i64 lvl) := (blk_cell hb2 1).trans rfl
        have hW2 : Below n₀ w0 W2 := hW.trans (hK1.trans hK2).below
        have g3 : W2.cell? ⟨ad.block, ad.off + 3, none⟩ = some (.slice A3 g.f3.length c3) := cell_below (by rw [hn₀]; exact hW2) e3
        gi_wp2_with fail
        have HJ2 := Aside0.mk hJ2
        have HK2 := Aside0.mk (hK1.trans hK2)
        have HB2 := Aside0.mk hb2
        have HW := Aside0.mk hW
        have HLs := Aside0.mk hLs
        have E3 := Aside0.mk e3
        have E0 := Aside0.mk e0
        have HBX := Aside0.mk hbx
        clear hJ2 hK2 hb2 s0 s1 hW2 g3 e0 e1 e2 e3 hbx hj1 hK1 hW hLs h1 h2 h3 l1 l2 hA
        gi_loopw [16] (fun i wr => ∃ k : Nat, k ≤ g.f3.length ∧ i = .int .i64 (k : Int) ∧ Aside0 (J (pre ++ ⟨ad, lvl, of_, g⟩ :: firsts Ls k) wr) ∧ Aside0 (KpS n₀ W wr) ∧ Aside0 (wr.heap[W.heap.size]? = some (.cells #[.pointer (some ad), .int .i64 lvl, .int .i64 of_] 123 (0, 0)))) (fun i _ => g.f3.length - (intOf i).toNat)
        case atStart => exact ⟨0, Nat.zero_le _, rfl, ⟨HJ2.out⟩, HK2, HB2⟩
        case round =>
          clear HJ2 HK2 HB2
          obtain ⟨k, hk, rfl, HJ, HK, HB⟩ := hrel
          have s0 : wr.cell? ⟨W.heap.size, 0, none⟩ = some (.pointer (some ad)) := (blk_cell HB.out 0).trans rfl
          have s1 : wr.cell? ⟨W.heap.size, 1, none⟩ = some (.int .i64 lvl) := (blk_cell HB.out 1).trans rfl
          have hWr : Below n₀ w0 wr := HW.out.trans HK.out.below
          have g3 : wr.cell? ⟨ad.block, ad.off + 3, none⟩ = some (.slice A3 g.f3.length c3) := cell_below (by rw [hn₀]; exact hWr) E3.out
          have g0 : wr.cell? ad = some (.int .i64 g.f0) := cell_below (by rw [hn₀]; exact hWr) E0.out
          by_cases hlt' : k < g.f3.length
          · obtain ⟨a3, ea, _, hGi, hOK⟩ := HLs.out k hlt'
            obtain rfl := ea
            have hWr' := Aside0.mk hWr
            have HO := Aside0.mk hOK
            clear hWr hOK hGi
            gi_wp2_with fail
            refine Free.draws .plain hmx ?hq (by decide) ?_
            case hq => rintro ⟨_, _, h | h⟩ <;> cases h.1
            refine any_still_tail 17 (by kernel_rfl) ?_
            simp only [List.take_succ_cons, List.take_zero, List.drop_succ_cons, List.drop_zero]
            repeat still_step
            try refine wpStill_nil ?_
            go_wp2_with fail
            refine (callsIn_wide.1 (HO.out M (fun x hx => hM x (List.mem_cons_of_mem _ (firsts_mem Ls hlt' hx))) l N B J Jx hJ hY n _ _ (hWr'.out.drew) (AbidesFrom.drew_ hJ HJ.out) ?hlen)).mono ?_
            case hlen =>
              obtain ⟨r, hr⟩ := firsts_pre Ls (show k + 1 ≤ g.f3.length from hlt')
              rw [hr, firsts_succ] at hlen
              simp only [List.length_append, List.length_cons] at hlen ⊢
              omega
            rintro e W3 (⟨rfl, hJ3, hK3⟩ | ⟨rfl, q, hq, hx3⟩)
            · go_wp2_with fail
              gi_wp2_with fail
              go_roundw
              case rel => exact ⟨k + 1, by omega, by go_num, ⟨by rw [firsts_succ]; simpa using hJ3⟩, ⟨HK.out.drew.trans hK3⟩, ⟨hK3.box _ _ HB.out⟩⟩
              case measure => simp [intOf]; omega
            · go_wp2_with fail
              gi_wp2_with fail
              go_ret
              obtain ⟨r, hr⟩ := hq
              obtain ⟨r2, hr2⟩ := firsts_pre Ls (show k + 1 ≤ g.f3.length from hlt')
              exact .inr ⟨rfl, ⟨ad, lvl, of_, g⟩ :: (firsts Ls k ++ q), ⟨r ++ r2, by rw [hr2, firsts_succ, ← hr]; simp⟩, by simpa using hx3⟩
          · have hk2 : k = g.f3.length := by omega
            subst hk2
            clear hWr
            gi_wp2_with fail
            go_ret
            exact .inl ⟨rfl, HJ.out, HK.out⟩
      · gi_wp2_with fail
        go_ret
        exact .inr ⟨rfl, [⟨ad, lvl, of_, g⟩], ⟨_, rfl⟩, hx2⟩
theorem KpS.put {n₀ : Nat} {w : World} (hn : n₀ ≤ w.heap.size) (W : World) (l : Nat) (o o' : Obj) (hl : w.heap.size ≤ l) (h : W.heap[l]? = some o) (hc : o.isCells = false) (hw : o.isWalk = false) : KpS n₀ W (W.putObj l o') :=
  ⟨belowK_b hn W l o o' hl h hc hw, fun k cs hk => by
    refine (World.putObj_heap_other ?_).trans hk
    rintro rfl
    rw [h] at hk; cases hk; cases hc⟩
theorem RoundIn.anyDepth {m m' : Nat} {P : Program} {l : Nat} {f : FuncId} {tmps : Array Value} {assign body : Code} {w : World} {R : Ending → World → Prop}
    (h : RoundIn Fence.wide m P l f tmps assign body w R) : RoundIn Fence.wide m' P l f tmps assign body w R := ⟨h.1, fun c cs _ => h.2 c cs (room_wide _)⟩
theorem all_calls (ad : Addr) (w : World) :
    Calls Tryd.prog 53 #[.pointer (some ad)] w fun e w' => e = .returned (.func (.func 81) #[] #[.pointer (some ⟨w.heap.size, 0, none⟩)]) ∧ w' = w.alloc (.cells #[.pointer (some ad)] 121) := by
  go_enter Tryd.func53, Tryd.ntmps53
  go_wp2_with fail
  go_ret
  exact ⟨rfl, rfl⟩
theorem map_val {L : List Spot} {q : List {x // x ∈ L}} (h : q.map Subtype.val = L) : q = L.attach := by
  apply (List.map_inj_right (f := Subtype.val) (fun a b h => Subtype.ext h)).1
  rw [h, List.attach_map_subtype_val]
theorem map_val_pre {L : List Spot} {q : List {x // x ∈ L}} (h : q.map Subtype.val <+: L) : q <+: L.attach := by
  have e : q = L.attach.take q.length := by
    apply (List.map_inj_right (f := Subtype.val) (fun a b h => Subtype.ext h)).1
    rw [List.map_take, List.attach_map_subtype_val]
    have h2 := List.prefix_iff_eq_take.1 h
    rwa [List.length_map] at h2
  rw [e]
  exact List.take_prefix _ _
set_option maxHeartbeats 1000000 in
/-- The iterator over all geometries stops where a round says so, or gives all. -/
theorem all_stops (n : Nat) (n₀ : Nat) (w0 : World) (hn₀ : w0.heap.size = n₀) (g : Ge) (ad : Addr) (hA : GAt w0 ad g) (hbk : g.bulk ≤ 1073741824) (w : World) (hw : Below n₀ w0 w) (Bt : Nat) (hBt : w.cell? ⟨Bt, 0, none⟩ = some (.pointer (some ad))) :
    ∃ L : List Spot, L.map Spot.it = nodes g 1 0 ∧ (∀ x ∈ L, GAt w0 x.ad x.g) ∧
      SeqStopsK Fence.wide n Tryd.prog 81 #[.pointer (some ⟨Bt, 0, none⟩)] (fun x : {x // x ∈ L} => #[x.1.enc]) (KpS n₀) (fun ys => ys = L.attach) (fun pre => pre <+: L.attach) L.length w := by
  obtain ⟨L, h1, h2, h3⟩ := walk_ok n₀ w0 hn₀ g ad 1 0 hA (by omega) (by omega) hbk
  refine ⟨L, h1, h2, fun l J Jx W hW hJ hJx hY h0 => ?_⟩
  have hc : W.cell? ⟨Bt, 0, none⟩ = some (.pointer (some ad)) := cell_below hW hBt
  have hp := callsIn_wide.1 (h3 L (fun _ h => h) l L.length W.heap.size (fun pre W => ∃ q : List {x // x ∈ L}, q.map Subtype.val = pre ∧ J q W) (fun pre W => ∃ q : List {x // x ∈ L}, q.map Subtype.val = pre ∧ Jx q W)
    (fun s A B row hs hg hr => by obtain ⟨q, e, hq⟩ := hs; exact ⟨q, e, hJ q A B row hq hg hr⟩)
    (fun m pre x W1 hx hq hl _ => by
      obtain ⟨q, rfl, hq⟩ := hq
      obtain ⟨fn, tmps, assign, body, hy, hR⟩ := hY q ⟨x, hx⟩ W1 hq (by simpa using hl)
      refine ⟨fn, tmps, assign, body, hy, RoundIn.anyDepth (hR.mono ?_)⟩
      rintro e W2 (⟨he, hj, hk⟩ | ⟨he, hj⟩)
      · exact .inl ⟨he, ⟨_, by simp, hj⟩, hk⟩
      · exact .inr ⟨he, ⟨_, by simp, hj⟩⟩)
    0 [] W (hw.trans (hW.mono (by have := hw.size; omega))) ⟨[], rfl, h0⟩ (by simp))
  dsimp only [Spot.enc] at hp
  have HP := Aside0.mk hp
  clear hp h3 hY h0
  refine callsIn_wide.2 ?_
  show Calls Tryd.prog 81 #[.func (.yield l) #[] #[], .pointer (some ⟨Bt, 0, none⟩)] W _
  go_enter Tryd.func81, Tryd.ntmps81
  go_wp2_with fail
  refine HP.out.mono ?_
  rintro e W1 (⟨rfl, ⟨q, hq, hJ1⟩, _⟩ | ⟨rfl, p, hp, ⟨q, hq, hx⟩⟩)
  · go_wp2_with fail
    go_end0
    exact ⟨⟨_, rfl⟩, .inl ⟨q, map_val (by simpa using hq), hJ1⟩⟩
  · go_wp2_with fail
    go_end0
    refine ⟨⟨_, rfl⟩, .inr ⟨q, map_val_pre ?_, hx⟩⟩
    rw [hq]
    simpa using hp
end Go.Proofs.YtiiolhnpnlmkjaaDoor.Tree
