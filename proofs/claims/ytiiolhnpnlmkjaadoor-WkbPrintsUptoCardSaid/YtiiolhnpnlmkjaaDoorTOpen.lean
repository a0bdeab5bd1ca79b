/- What an argument's reading says: a Geom's value is a tree that weighs no more than what is read. No conditions. -/
import Derived.Test.YtiiolhnpnlmkjaaDoorTSem
import Derived.Test.YtiiolhnpnlmkjaaDoorRows
import Derived.ChangeArms
namespace Go.Proofs.YtiiolhnpnlmkjaaDoor.Tree
open Go.RowKit Go.Proofs.YtiiolhnpnlmkjaaDoorW.PrintWords Go.Proofs.YtiiolhnpnlmkjaaDoorW.PrintLast Go.Proofs.YtiiolhnpnlmkjaaDoorW.PrintMore
set_option linter.unusedVariables false
theorem exists_list {α : Type} (P : Nat → α → Prop) : ∀ n : Nat, (∀ i, i < n → ∃ a, P i a) → ∃ xs : List α, xs.length = n ∧ ∀ i a, xs[i]? = some a → P i a := by
  intro n
  induction n with
  | zero => intro _; exact ⟨[], rfl, fun i a h => by simp at h⟩
  | succ n ih =>
    intro h
    obtain ⟨xs, hl, hx⟩ := ih (fun i hi => h i (by omega))
    obtain ⟨a, ha⟩ := h n (by omega)
    refine ⟨xs ++ [a], by simp [hl], fun i b hb => ?_⟩
    by_cases hi : i < xs.length
    · rw [List.getElem?_append_left hi] at hb; exact hx i b hb
    · have hlt := (List.getElem?_eq_some_iff.1 hb).1
      simp at hlt
      obtain rfl : i = n := by omega
      rw [List.getElem?_append_right (by omega)] at hb
      simp [hl] at hb
      subst hb; exact ha
theorem sum_le {α H : Type} (wt : α → Nat) : ∀ (xs : List α) (ys : List (DataW H)), xs.length = ys.length → (∀ (i : Nat) (a : α) (y : DataW H), xs[i]? = some a → ys[i]? = some y → wt a ≤ Rows.uptoBulk y) → (xs.map wt).sum ≤ Rows.uptoBulkAll ys := by
  intro xs
  induction xs with
  | nil => intro ys _ _; simp
  | cons a xs ih =>
    intro ys hl h
    cases ys with
    | nil => simp at hl
    | cons y ys =>
      simp only [List.map_cons, List.sum_cons, Rows.uptoBulkAll]
      have h1 := h 0 a y rfl rfl
      have h2 := ih ys (by simpa using hl) (fun i b z hb hz => h (i + 1) b z (by simpa using hb) (by simpa using hz))
      omega
theorem mapM_get {α β : Type} {f : α → Option β} : ∀ {l : List α} {r : List β}, l.mapM f = some r → ∀ (i : Nat) (x : α), l[i]? = some x → f x = r[i]? := by
  intro l
  induction l with
  | nil => intro r _ i x h; simp at h
  | cons y l ih =>
    intro r h i x hx
    simp only [List.mapM_cons, Option.bind_eq_bind, Option.bind_eq_some_iff, Option.pure_def, Option.some.injEq] at h
    obtain ⟨z, h1, r', h2, rfl⟩ := h
    cases i with
    | zero => simp at hx; subst hx; simpa using h1
    | succ i => simp at hx; simpa using ih h2 i x hx
section
variable {H : Type} {enc : TypeId × Value → H} {W : World} {base : Nat} {sp : Nat → Bool} {held : Bool}
theorem cells_get {a : Addr} {n : Nat} {cs : List Value} (h : W.cells? base a n = some cs) (hl : cs.length ≤ n) : ∀ i u, cs[i]? = some u → W.cell? (a.add i) = some u := by
  intro i u hu
  unfold World.cells? at h
  split at h
  · have hi := (List.getElem?_eq_some_iff.1 hu).1
    have := mapM_get h i i (by rw [List.getElem?_range]; omega)
    rw [this, hu]
  · cases h
theorem open_row {α : Type} (d : Kd α) (wt : α → Nat) {t e : TypeId} (ht : Tryd.prog.underlying t = some (.slice e)) (hs : Tryd.prog.cellsOf e = d.sz) {n : Nat} {cs : List Value} {x : DataW H × List MemPlace}
    (hE : ∀ m cs y, m < n → DataW.trod enc Tryd.prog W base sp held m e cs = some y → ∃ a, d.K W a cs ∧ wt a ≤ Rows.uptoBulk y.1)
    (h : DataW.trod enc Tryd.prog W base sp held n t cs = some x) : ∃ A c xs, cs = [.slice A xs.length c] ∧ xs.length ≤ c ∧ d.C W A xs.length xs ∧ (xs.map wt).sum + 1 ≤ Rows.uptoBulk x.1 := by
  rcases DataW.trod_slice ht h with ⟨rfl, rfl⟩ | ⟨a, len, cap, elems, rest, m, rfl, rfl, rfl, _, hlc, hcm, hel, hget, _, _⟩
  · exact ⟨none, 0, [], rfl, Nat.le_refl _, (Kd.R_reads' (Kd.R_nil d 0 W 0 (fun _ => True))).2.2, by simp [Rows.uptoBulk]⟩
  · obtain ⟨xs, hl, hx⟩ := exists_list (fun i p => ∃ cs y, W.cells? base (a.add (i * d.sz)) d.sz = some cs ∧ elems[i]? = some y ∧ d.K W p cs ∧ wt p ≤ Rows.uptoBulk y.1) len (fun i hi => by
      have h1 := hget i hi
      rw [hs, List.getElem?_eq_getElem (by omega)] at h1
      obtain ⟨c, h2, h3⟩ := Option.bind_eq_some_iff.1 h1
      obtain ⟨p, h4, h5⟩ := hE m c _ (by omega) h3
      exact ⟨p, c, _, h2, List.getElem?_eq_getElem (by omega), h4, h5⟩)
    refine ⟨some a, cap, xs, by rw [hl], by omega, ?_, ?_⟩
    · refine ⟨rfl, by have : maxLen ≤ 9223372036854775807 := by decide
                      omega, fun _ => ⟨a, rfl, fun j p hj => ?_⟩⟩
      obtain ⟨c, y, h1, _, h3, _⟩ := hx j p hj
      have hcl := d.K_len h3
      refine ⟨c, hcl, h3, fun i u hu => ?_⟩
      have := cells_get h1 (by omega) i u hu
      rw [Addr.add_add] at this
      exact this
    · have := sum_le wt xs (elems.map (·.1)) (by simp [hl, hel]) (fun i p y hp hy => by
        obtain ⟨c, z, _, h2, _, h4⟩ := hx i p hp
        rw [List.getElem?_map, h2] at hy
        cases hy; exact h4)
      simp only [Rows.uptoBulk]
      omega
theorem cellsPt : Tryd.prog.cellsOf 82 = 2 := by kernel_rfl
theorem cellsPts : Tryd.prog.cellsOf 24 = 1 := by kernel_rfl
theorem cellsGe : Tryd.prog.cellsOf 28 = 4 := by kernel_rfl
theorem one_le (d : DataW H) : 1 ≤ Rows.uptoBulk d := by
  cases d with
  | lit l => cases l <;> simp [Rows.uptoBulk]
  | nil => simp [Rows.uptoBulk]
  | ptr d => simp [Rows.uptoBulk]
  | slice elems spare => simp [Rows.uptoBulk]
  | agg parts => simp [Rows.uptoBulk]
  | iface t d => simp [Rows.uptoBulk]
  | map entries => simp [Rows.uptoBulk]
  | held h => simp [Rows.uptoBulk]
theorem sum_one {α : Type} (l : List α) : (l.map fun _ => 1).sum = l.length := by
  induction l with
  | nil => rfl
  | cons a l ih => simp only [List.map_cons, List.sum_cons, ih, List.length_cons]; omega
theorem sum_len {α : Type} (l : List (List α)) : (l.map fun r => r.length + 1).sum = l.length + l.flatten.length := by
  induction l with
  | nil => rfl
  | cons a l ih => simp only [List.map_cons, List.sum_cons, ih, List.length_cons, List.flatten_cons, List.length_append]; omega
theorem sum_bulk (l : List Ge) : (l.map Ge.bulk).sum = bulks l := by
  induction l with
  | nil => simp [bulks]
  | cons a l ih => simp only [List.map_cons, List.sum_cons, ih, bulks]
theorem list2 {α : Type} : ∀ {l : List α}, l.length = 2 → ∃ a b, l = [a, b]
  | [a, b], _ => ⟨a, b, rfl⟩
theorem list4 {α : Type} : ∀ {l : List α}, l.length = 4 → ∃ a b c d, l = [a, b, c, d]
  | [a, b, c, d], _ => ⟨a, b, c, d, rfl⟩
set_option maxRecDepth 100000 in
theorem open_pt {n : Nat} {cs : List Value} {y : DataW H × List MemPlace} (h : DataW.trod enc Tryd.prog W base sp held n 82 cs = some y) : ∃ p : Pt, kPt.K W p cs ∧ 1 ≤ Rows.uptoBulk y.1 := by
  obtain ⟨xs, m, rfl, _, hl, hx, hf⟩ := DataW.trod_struct Tryd.underlying82 h
  rw [cellsPt] at hl
  obtain ⟨u, v, rfl⟩ := list2 hl
  have h0 := hf 0 _ rfl
  have h1 := hf 1 _ rfl
  obtain ⟨y0, y1, rfl⟩ := list2 (show xs.length = 2 from hx)
  obtain ⟨a, ea, _⟩ := DataW.trod_int Tryd.underlying78 (show DataW.trod enc Tryd.prog W base sp held m 78 [u] = some y0 from h0)
  obtain ⟨b, eb, _⟩ := DataW.trod_int Tryd.underlying78 (show DataW.trod enc Tryd.prog W base sp held m 78 [v] = some y1 from h1)
  cases ea
  cases eb
  exact ⟨⟨a, b⟩, kPt_mk W ⟨a, b⟩, one_le _⟩
set_option maxRecDepth 100000 in
/-- A Geom that is read: a tree, and what it weighs. -/
theorem open_ge : ∀ (n : Nat) (cs : List Value) (y : DataW H × List MemPlace), DataW.trod enc Tryd.prog W base sp held n 28 cs = some y → ∃ g : Ge, kGe.K W g cs ∧ g.bulk ≤ Rows.uptoBulk y.1 := by
  intro n
  induction n using Nat.strongRecOn with
  | ind n ih =>
    intro cs y h
    obtain ⟨xs, m, rfl, rfl, hl, hx, hf⟩ := DataW.trod_struct Tryd.underlying28 h
    rw [cellsGe] at hl
    obtain ⟨u0, u1, u2, u3, rfl⟩ := list4 hl
    have h0 := hf 0 _ rfl
    have h1 := hf 1 _ rfl
    have h2 := hf 2 _ rfl
    have h3 := hf 3 _ rfl
    obtain ⟨y0, y1, y2, y3, rfl⟩ := list4 (show xs.length = 4 from hx)
    obtain ⟨k, ek, _⟩ := DataW.trod_int Tryd.underlying3 (show DataW.trod enc Tryd.prog W base sp held m 3 [u0] = some y0 from h0)
    cases ek
    obtain ⟨A1, c1, l, e1, l1, r1, b1⟩ := open_row kPt (fun _ => 1) (t := 24) (e := 82) Tryd.underlying24 cellsPt (fun m' cs y _ h => open_pt h) (show DataW.trod enc Tryd.prog W base sp held m 24 [u1] = some y1 from h1)
    obtain ⟨A2, c2, r, e2, l2, r2, b2⟩ := open_row (Kd.slice 82 kPt) (fun r => r.length + 1) (t := 25) (e := 24) Tryd.underlying25 cellsPts (fun m' cs y _ h => by
      obtain ⟨A, c, l, rfl, l3, r3, b3⟩ := open_row kPt (fun _ => 1) (t := 24) (e := 82) Tryd.underlying24 cellsPt (fun m' cs y _ h => open_pt h) h
      rw [sum_one] at b3
      exact ⟨l, ⟨A, c, rfl, l3, r3⟩, b3⟩) (show DataW.trod enc Tryd.prog W base sp held m 25 [u2] = some y2 from h2)
    obtain ⟨A3, c3, ps, e3, l3, r3, b3⟩ := open_row kGe Ge.bulk (t := 26) (e := 28) Tryd.underlying26 cellsGe (fun m' cs y hm h => ih m' (by omega) cs y h) (show DataW.trod enc Tryd.prog W base sp held m 26 [u3] = some y3 from h3)
    cases e1
    cases e2
    cases e3
    rw [sum_one] at b1
    rw [sum_len] at b2
    rw [sum_bulk] at b3
    refine ⟨⟨k, l, r, ps⟩, kGe_mk W ⟨k, l, r, ps⟩ l1 r1 l2 r2 l3 r3, ?_⟩
    rw [Ge.bulk_eq]
    simp only [List.map_cons, List.map_nil, Rows.uptoBulk, Rows.uptoBulkAll]
    omega
end
end Go.Proofs.YtiiolhnpnlmkjaaDoor.Tree
