/- The lists of OctetFresh: rows of heads, and the rows of bytes that these head, each apart. No conditions but those told. -/
import Derived.Test.YtenomaibgpbonaaTOfHex
import Derived.Test.YtenomaibgpbonaaTFam
namespace Go.Proofs.Ytenomaibgpbonaa.Tree
open Go.RowKit Go.Proofs.YtenomaibgpbonaaW.PrintWords Go.Proofs.YtenomaibgpbonaaW.PrintLast Go.Proofs.YtenomaibgpbonaaW.PrintMore Go.Proofs.Ytenomaibgpbonaa.OFresh
set_option linter.unusedVariables false
abbrev kB : Kd Int := Kd.int .u8
theorem Fam.perm {α : Type} {d : Kd α} {e base : Nat} {W : World} {L L' : List (Value × List α)} (h : Fam d e base W L) (hp : L.Perm L') : Fam d e base W L' :=
  ⟨fun p hq => h.1 p (hp.mem_iff.2 hq), (hp.pairwise_iff (fun hf => Far.symm hf)).1 h.2⟩
theorem Fam.left {α : Type} {d : Kd α} {e base : Nat} {W : World} {L L' : List (Value × List α)} (h : Fam d e base W (L ++ L')) : Fam d e base W L :=
  ⟨fun p hp => h.1 p (List.mem_append_left _ hp), (List.pairwise_append.1 h.2).1⟩
structure St (w W : World) (HH : List (Value × List Hd)) (BB : List (Value × List Int)) : Prop where
  H : Fam kH 22 w.heap.size W HH
  B : Fam kB 5 w.heap.size W BB
  K : Below w.heap.size w W
section
variable {w W W1 : World} {HH : List (Value × List Hd)} {BB BB' : List (Value × List Int)}
theorem St.below (h : St w W HH BB) (hb : Below W.heap.size W W1) : St w W1 HH BB := ⟨h.H.below hb, h.B.below hb, below_step h.K hb⟩
theorem St.drew (h : St w W HH BB) : St w W.drew HH BB := h.below (below_drew (Below.refl _ _))
theorem St.drewN (h : St w W HH BB) (m : Nat) : St w (W.drewN m) HH BB := h.below (pw_below_drewN (Below.refl _ _) m)
theorem St.drawn (h : St w W HH BB) (hd : Drawn0 W W1) : St w W1 HH BB := h.below hd.below
theorem St.madeB (h : St w W HH BB) {x : Value} {X : List Int} (hm : Made W W1 x X) : St w W1 HH (BB ++ [(x, X)]) := ⟨h.H.below hm.2, h.B.made hm.2 hm.1 h.K.size, below_step h.K hm.2⟩
theorem St.madeH (h : St w W HH BB) {x : Value} {X : List Hd} {ok : Nat → Prop} (hb : Below W.heap.size W W1) (hm : kH.R 22 W1 W.heap.size ok x X) : St w W1 (HH ++ [(x, X)]) BB := ⟨h.H.made hb hm h.K.size, h.B.below hb, below_step h.K hb⟩
theorem St.setB (h : St w W HH BB) {i : Nat} {p q : Value × List Int} (hi : BB[i]? = some p) (hg : W.grownBy W1 p.1.ownBlock) (hq : Row kB 5 w.heap.size W1 q) (hat : q.1.ownBlock = p.1.ownBlock ∨ ∃ b, q.1.ownBlock = some b ∧ W.heap.size ≤ b) : St w W1 HH (BB.set i q) :=
  ⟨h.H.typed rfl (h.B.row hi) (by decide) hg, h.B.set rfl hi hg hq hat, h.K.grown hg h.K.size (h.B.row hi).from_⟩
theorem St.setH (h : St w W HH BB) {i : Nat} {p q : Value × List Hd} (hi : HH[i]? = some p) (hg : W.grownBy W1 p.1.ownBlock) (hq : Row kH 22 w.heap.size W1 q) (hat : q.1.ownBlock = p.1.ownBlock ∨ ∃ b, q.1.ownBlock = some b ∧ W.heap.size ≤ b) : St w W1 (HH.set i q) BB :=
  ⟨h.H.set rfl hi hg hq hat, h.B.typed rfl (h.H.row hi) (by decide) hg, h.K.grown hg h.K.size (h.H.row hi).from_⟩
theorem St.permB (h : St w W HH BB) (hp : BB.Perm BB') : St w W HH BB' := ⟨h.H, h.B.perm hp, h.K⟩
theorem St.leftH {H2 : List (Value × List Hd)} (h : St w W (HH ++ H2) BB) : St w W HH BB := ⟨h.H.left, h.B, h.K⟩
end
/-- The heads of lists. -/
def heads (L : List (Value × List Int)) : List Hd := L.map fun p => hdOf p.1
theorem heads_len (L : List (Value × List Int)) : (heads L).length = L.length := by simp [heads]
theorem heads_app (L M : List (Value × List Int)) : heads (L ++ M) = heads L ++ heads M := by simp [heads]
theorem heads_set (L : List (Value × List Int)) (i : Nat) (v : Value) (X Y : List Int) (h : L[i]? = some (v, X)) : heads (L.set i (v, Y)) = heads L := by
  unfold heads
  rw [List.map_set]
  apply List.ext_getElem?
  intro j
  by_cases hij : i = j
  · subst hij
    have hi := (List.getElem?_eq_some_iff.1 h).1
    rw [List.getElem?_set_self (by simpa using hi), List.getElem?_map, h]
    rfl
  · rw [List.getElem?_set_ne hij]
section
variable {w W : World} {e base : Nat} {L : List (Value × List Int)}
theorem Row.hd_ {α : Type} {d : Kd α} {p : Value × List α} (h : Row d e base W p) : hd (hdOf p.1) = p.1 := by
  obtain ⟨A, c, h1⟩ := Kd.R_slice h
  rw [h1]
  rfl
theorem Row.len_ {α : Type} {d : Kd α} {A : Option Addr} {n c : Nat} {X : List α} (h : Row d e base W (.slice A n c, X)) : n = X.length ∧ n ≤ c ∧ d.C W A X.length X := Kd.R_reads' h
/-- A head is read where it lies. -/
theorem Row.cellH {A : Option Addr} {n c i : Nat} {p : Value × List Int} (h : Row kH e base W (.slice A n c, heads L)) (hi : L[i]? = some p) (hp : hd (hdOf p.1) = p.1) :
    ∃ g, A = some ⟨g, 0, none⟩ ∧ W.cell? ⟨g, i, none⟩ = some p.1 ∧ W.frozen? ⟨g, i, none⟩ = false := by
  obtain ⟨hn, _, _⟩ := h.len_
  have hil := (List.getElem?_eq_some_iff.1 hi).1
  have hl := heads_len L
  obtain ⟨g, cap, h1, _⟩ := Kd.R_form h (by show 0 < (heads L).length; omega)
  obtain rfl : A = some ⟨g, 0, none⟩ := by injection h1
  obtain ⟨h2, h3⟩ := Kd.R_celln (none, 0, 0) h (i : Int) (by omega) (by omega)
  rw [Int.toNat_natCast] at h2 h3
  refine ⟨g, rfl, h2.trans ?_, h3⟩
  have : rdOf (none, 0, 0) (heads L) (i : Int) = hdOf p.1 := by
    simp only [rdOf, heads, Int.toNat_natCast, List.getD_eq_getElem?_getD, List.getElem?_map, hi, Option.map_some, Option.getD_some]
  rw [this, hp]
theorem Row.cellB {A : Option Addr} {n c i : Nat} {X : List Int} {x : Int} (h : Row kB e base W (.slice A n c, X)) (hi : X[i]? = some x) :
    ∃ g, A = some ⟨g, 0, none⟩ ∧ W.cell? ⟨g, i, none⟩ = some (.int .u8 x) ∧ W.frozen? ⟨g, i, none⟩ = false := by
  obtain ⟨hn, _, _⟩ := h.len_
  have hil := (List.getElem?_eq_some_iff.1 hi).1
  obtain ⟨g, cap, h1, _⟩ := Kd.R_form h (by show 0 < X.length; omega)
  obtain rfl : A = some ⟨g, 0, none⟩ := by injection h1
  obtain ⟨h2, h3⟩ := Kd.R_celln (0 : Int) h (i : Int) (by omega) (by omega)
  rw [Int.toNat_natCast] at h2 h3
  refine ⟨g, rfl, h2.trans ?_, h3⟩
  have : rdOf (0 : Int) X (i : Int) = x := by
    simp only [rdOf, Int.toNat_natCast, List.getD_eq_getElem?_getD, hi, Option.getD_some]
  rw [this]
theorem Row.store {g n c : Nat} {X : List Int} (h : Row kB e base W (.slice (some ⟨g, 0, none⟩) n c, X)) (k : Nat) (y : Int) :
    Row kB e base (W.setCell ⟨g, k, none⟩ (.int .u8 y)) (.slice (some ⟨g, 0, none⟩) n c, X.set k y) ∧ W.grownBy (W.setCell ⟨g, k, none⟩ (.int .u8 y)) (some g) := by
  have := Kd.R_putg h (k : Int) y
  rwa [Int.toNat_natCast] at this
end
theorem St.store {w W : World} {HH : List (Value × List Hd)} {L R : List (Value × List Int)} {i g m c : Nat} {X : List Int} (h : St w W HH (L ++ R)) (hi : L[i]? = some (.slice (some ⟨g, 0, none⟩) m c, X)) (k : Nat) (y : Int) :
    St w (W.setCell ⟨g, k, none⟩ (.int .u8 y)) HH (L.set i (.slice (some ⟨g, 0, none⟩) m c, X.set k y) ++ R) := by
  have hil := (List.getElem?_eq_some_iff.1 hi).1
  have hi' : (L ++ R)[i]? = some (.slice (some ⟨g, 0, none⟩) m c, X) := by rw [List.getElem?_append_left hil]; exact hi
  obtain ⟨h1, h2⟩ := (h.B.row hi').store k y
  have := h.setB hi' h2 h1 (.inl rfl)
  rwa [List.set_append_left _ _ hil] at this
/-! ### what the lists hold -/
def orig (b : List Int) (v : Int) (i : Nat) : List Int := if i % 3 = 0 then P32 b (v % 4294967296) true else if i % 3 = 1 then P64 b v false else b ++ [0]
def marked (b : List Int) (v : Int) (i : Nat) : List Int := List.replicate (orig b v i).length (100 + (i : Int))
theorem orig_len (b : List Int) (v : Int) (i : Nat) : b.length + 1 ≤ (orig b v i).length ∧ (orig b v i).length ≤ b.length + 8 := by
  unfold orig
  repeat' split
  · rw [P32_len]; omega
  · rw [P64_len]; omega
  · simp
/-- Lists of which so many bear their marks. -/
def Ct (b : List Int) (v : Int) (m : Nat) (L : List (Value × List Int)) : Prop := ∀ i p, L[i]? = some p → p.2 = if i < m then marked b v i else orig b v i
theorem fill_step (X : List Int) (k : Nat) (y : Int) (hk : k < X.length) : (List.replicate k y ++ X.drop k).set k y = List.replicate (k + 1) y ++ X.drop (k + 1) := by
  rw [List.set_append_right _ _ (by simp), List.length_replicate, Nat.sub_self, List.drop_eq_getElem_cons hk, List.set_cons_zero, List.replicate_succ', List.append_assoc]
  rfl
theorem orig_mod (b : List Int) (v : Int) (t k : Nat) : orig b v (3 * t + k) = orig b v k := by
  unfold orig
  rw [show (3 * t + k) % 3 = k % 3 from by omega]
theorem Ct.app {b : List Int} {v : Int} {m t : Nat} {L N : List (Value × List Int)} (hL : Ct b v m L) (hn : L.length = 3 * t) (hm : m ≤ 3 * t) (hN : Ct b v 0 N) : Ct b v m (L ++ N) := by
  intro i p h
  by_cases hi : i < L.length
  · rw [List.getElem?_append_left hi] at h
    exact hL i p h
  · rw [List.getElem?_append_right (by omega)] at h
    have := hN _ p h
    rw [if_neg (by omega)] at this ⊢
    rw [this, show i = 3 * t + (i - L.length) from by omega, orig_mod]
    congr 1
    omega
theorem set_self {α : Type} {L : List α} {i : Nat} {p : α} (h : L[i]? = some p) : L.set i p = L := by
  apply List.ext_getElem?
  intro j
  by_cases hij : i = j
  · subst hij
    rw [List.getElem?_set_self (List.getElem?_eq_some_iff.1 h).1, h]
  · rw [List.getElem?_set_ne hij]
theorem St.fill {w W : World} {HH : List (Value × List Hd)} {M R : List (Value × List Int)} {n g m c k : Nat} {X : List Int} {y : Int} (h : St w W HH (M.set n (.slice (some ⟨g, 0, none⟩) m c, List.replicate k y ++ X.drop k) ++ R)) (hn : n < M.length) (hk : k < X.length) :
    St w (W.setCell ⟨g, k, none⟩ (.int .u8 y)) HH (M.set n (.slice (some ⟨g, 0, none⟩) m c, List.replicate (k + 1) y ++ X.drop (k + 1)) ++ R) := by
  have := h.store (List.getElem?_set_self hn) k y
  rwa [List.set_set, fill_step X k y hk] at this
theorem Ct.mark {b : List Int} {v : Int} {n : Nat} {M : List (Value × List Int)} {u : Value} {X : List Int} (h : Ct b v n M) (hX : X = orig b v n) : Ct b v (n + 1) (M.set n (u, List.replicate X.length (100 + (n : Int)) ++ X.drop X.length)) := by
  intro i p hp
  by_cases hi : n = i
  · subst hi
    have hl := (List.getElem?_eq_some_iff.1 hp).1
    rw [List.length_set] at hl
    rw [List.getElem?_set_self hl] at hp
    rw [if_pos (Nat.lt_succ_self n), ← Option.some.inj hp, List.drop_length, List.append_nil, hX]
    rfl
  · rw [List.getElem?_set_ne hi] at hp
    rw [h i p hp]
    split <;> split <;> first | rfl | omega
theorem row_empty (W : World) : kB.R 5 (W.alloc (.cells #[] 5)) W.heap.size (fun _ => True) (.slice (some ⟨W.heap.size, 0, none⟩) 0 0) [] :=
  Kd.R_of_own ⟨by simp [encs], .inr ⟨W.heap.size, 0, #[], rfl, Nat.le_refl _, Go.heap_alloc_new _ _, Nat.le_refl _, by decide, by simp, by simp [encs]⟩⟩ (fun _ _ => trivial)
theorem marked_at (b : List Int) (v : Int) (i k : Nat) (h : k < (marked b v i).length) : (marked b v i)[k]? = some (100 + (i : Int)) := by
  unfold marked at h ⊢
  rw [List.length_replicate] at h
  rw [List.getElem?_replicate, if_pos h]
theorem marked_at' (b : List Int) (v : Int) (i k : Nat) (h : k < (marked b v i).length + 1) : (marked b v i ++ [100 + (i : Int)])[k]? = some (100 + (i : Int)) := by
  by_cases hk : k < (marked b v i).length
  · rw [List.getElem?_append_left hk]
    exact marked_at b v i k hk
  · rw [List.getElem?_append_right (by omega), show k - (marked b v i).length = 0 from by omega]
    rfl
def cmpl (x : Int) : Int := Go.bits BinOp.xor IntKind.u8 IntKind.u8.max x
theorem cmpl_all : ∀ c : Fin 256, 0 ≤ cmpl ((c.val : Nat) : Int) ∧ cmpl ((c.val : Nat) : Int) < 256 ∧ ((c.val : Nat) : Int) / 16 ≠ cmpl ((c.val : Nat) : Int) / 16 := by decide +kernel
theorem cmpl_spec (x : Int) (h0 : 0 ≤ x) (h1 : x < 256) : 0 ≤ cmpl x ∧ cmpl x < 256 ∧ x / 16 ≠ cmpl x / 16 := by
  obtain ⟨n, rfl⟩ := Int.eq_ofNat_of_zero_le h0
  exact cmpl_all ⟨n, by omega⟩
/-- What was lent, so many bytes of it turned. -/
def turned (b : List Int) (k : Nat) : List Int := (b.map cmpl).take k ++ (b ++ [77, 88]).drop k
theorem turned_zero (b : List Int) : turned b 0 = b ++ [77, 88] := by simp [turned]
theorem turned_len (b : List Int) (k : Nat) (h : k ≤ b.length) : (turned b k).length = b.length + 2 := by simp [turned]; omega
theorem turned_at (b : List Int) (k : Nat) (h : k < b.length) : (turned b k)[k]? = some b[k] := by
  unfold turned
  rw [List.getElem?_append_right (by simp; omega), List.getElem?_drop, List.length_take, List.length_map, Nat.min_eq_left (by omega), Nat.sub_self, Nat.add_zero, List.getElem?_append_left h, List.getElem?_eq_getElem h]
theorem turned_step (b : List Int) (k : Nat) (h : k < b.length) : (turned b k).set k (cmpl b[k]) = turned b (k + 1) := by
  unfold turned
  have hl : ((b.map cmpl).take k).length = k := by simp; omega
  rw [List.set_append_right _ _ (by omega), hl, Nat.sub_self, List.drop_eq_getElem_cons (i := k) (by simp; omega), List.set_cons_zero, List.take_succ_eq_append_getElem (i := k) (by simp; omega), List.append_assoc]
  simp
theorem turnedC {base : Nat} {W : World} {A : Option Addr} {c : Nat} {b : List Int} (h : Row kB 5 base W (.slice A (b.length + 2) c, turned b b.length)) : Kd.C kB W A b.length (b.map cmpl) ∧ b.length ≤ c := by
  have h2 := Kd.R_take (m := b.length) h (by rw [turned_len b b.length (Nat.le_refl _)]; omega)
  have e : List.take b.length (turned b b.length) = b.map cmpl := by
    unfold turned
    rw [List.take_append_of_le_length (by simp), List.take_take, Nat.min_self]
    exact List.take_of_length_le (by simp)
  have h3 := (Kd.R_reads' h2).2
  rw [e] at h3
  have e2 : (b.map cmpl).length = b.length := by simp
  rw [e2] at h3
  exact ⟨h3.2, h3.1⟩
theorem turned_ne (b : List Int) (hb : ∀ x ∈ b, 0 ≤ x ∧ x < 256) (h : 0 < b.length) : strOfNums (hexs (b.map cmpl)) ≠ strOfNums (hexs b) := by
  have hm : ∀ x ∈ b.map cmpl, 0 ≤ x ∧ x < 256 := by
    intro x hx
    obtain ⟨y, hy, rfl⟩ := List.mem_map.1 hx
    have := cmpl_spec y (hb y hy).1 (hb y hy).2
    exact ⟨this.1, this.2.1⟩
  have h0 := List.getElem_mem (l := b) (n := 0) h
  have hc := cmpl_spec _ (hb _ h0).1 (hb _ h0).2
  refine hexs_ne _ _ hm hb (by simpa using h) h ?_
  have e1 : rd (b.map cmpl) 0 = cmpl b[0] := by simp [rd, List.getD_eq_getElem?_getD, List.getElem?_eq_getElem h]
  have e2 : rd b 0 = b[0] := by simp [rd, List.getD_eq_getElem?_getD, List.getElem?_eq_getElem h]
  rw [e1, e2]
  exact fun e => hc.2.2 e.symm
/-- A literal row of bytes. -/
theorem row_litB (W : World) (xs : List Int) (hm : xs.length ≤ maxLen) : kB.R 5 (W.alloc (.cells (xs.map (Value.int .u8)).toArray 5)) W.heap.size (fun _ => True) (.slice (some ⟨W.heap.size, 0, none⟩) xs.length xs.length) xs :=
  Kd.R_of_own ⟨by simp [encs], .inr ⟨W.heap.size, xs.length, (xs.map (Value.int .u8)).toArray, rfl, Nat.le_refl _, Go.heap_alloc_new _ _, Nat.le_refl _, hm, by simp, by simp [encs]; exact List.take_of_length_le (by simp)⟩⟩ (fun _ _ => trivial)
/-- A literal row of heads. -/
theorem row_lit (W : World) (hs : List Hd) (hm : hs.length ≤ maxLen) : kH.R 22 (W.alloc (.cells (hs.map hd).toArray 22)) W.heap.size (fun _ => True) (.slice (some ⟨W.heap.size, 0, none⟩) hs.length hs.length) hs :=
  Kd.R_of_own ⟨by simp [encs], .inr ⟨W.heap.size, hs.length, (hs.map hd).toArray, rfl, Nat.le_refl _, Go.heap_alloc_new _ _, Nat.le_refl _, hm, by simp, by simp [encs]; exact List.take_of_length_le (by simp)⟩⟩ (fun _ _ => trivial)
/-- The three answers of a turn. -/
def three (b : List Int) (v : Int) (Ax Ay Az : Option Addr) (cx cy cz : Nat) : List (Value × List Int) :=
  [(.slice Ax (b.length + 4) cx, P32 b (v % 4294967296) true), (.slice Ay (b.length + 8) cy, P64 b v false), (.slice Az (b.length + 1) cz, b ++ [0])]
theorem three_ct (b : List Int) (v : Int) (Ax Ay Az : Option Addr) (cx cy cz : Nat) : Ct b v 0 (three b v Ax Ay Az cx cy cz) := by
  intro i p h
  rcases i with _ | _ | _ | i
  · simp only [three, List.getElem?_cons_zero, Option.some.injEq] at h
    subst h; rfl
  · simp only [three, List.getElem?_cons_zero, List.getElem?_cons_succ, Option.some.injEq] at h
    subst h; rfl
  · simp only [three, List.getElem?_cons_zero, List.getElem?_cons_succ, Option.some.injEq] at h
    subst h; rfl
  · simp [three] at h
theorem St.three {w W : World} {HH : List (Value × List Hd)} {b : List Int} {v : Int} {Ax Ay Az : Option Addr} {cx cy cz : Nat} {L R : List (Value × List Int)}
    (h : St w W HH ((L ++ R) ++ ([(.slice Ax (b.length + 4) cx, P32 b (v % 4294967296) true)] ++ ([(.slice Ay (b.length + 8) cy, P64 b v false)] ++ [(.slice Az (b.length + 1) cz, b ++ [0])])))) :
    St w (W.alloc (.cells #[.slice Ax (b.length + 4) cx, .slice Ay (b.length + 8) cy, .slice Az (b.length + 1) cz] 22)) (HH ++ [(.slice (some ⟨W.heap.size, 0, none⟩) 3 3, heads (Tree.three b v Ax Ay Az cx cy cz))]) ((L ++ Tree.three b v Ax Ay Az cx cy cz) ++ R) := by
  refine (h.permB ?_).madeH (below_alloc (Below.refl _ _) _) (row_lit W (heads (Tree.three b v Ax Ay Az cx cy cz)) (by show 3 ≤ maxLen; decide))
  rw [List.append_assoc, List.append_assoc]
  exact List.Perm.append_left _ List.perm_append_comm
/-! ### lengthened lists: each shares its block with the list that it lengthens, or has a new one -/
structure Lo (w W : World) (b : List Int) (v : Int) (L : List (Value × List Int)) (vall vu : Value) (H0 : Nat) (vl : Value) (hl : List Hd) (G : List (Value × List Int)) : Prop where
  S : St w W [(vall, heads L), (vl, hl)] (L ++ [(vu, b ++ [77, 88])])
  h : H0 ≤ W.heap.size
  o : ∀ p ∈ L, ∀ j, p.1.ownBlock = some j → j < H0
  g : ∀ i q, G[i]? = some q → Row kB 5 w.heap.size W q ∧ q.2 = marked b v i ++ [100 + (i : Int)] ∧ ((∃ p, L[i]? = some p ∧ q.1.ownBlock = p.1.ownBlock) ∨ ∃ j, q.1.ownBlock = some j ∧ H0 ≤ j)
section
variable {w W W1 : World} {b : List Int} {v : Int} {L G : List (Value × List Int)} {vall vu vl : Value} {H0 : Nat} {hl : List Hd}
theorem Lo.step (h : Lo w W b v L vall vu H0 vl hl G) {k : Nat} {pv v1 : Value} {X : List Int} (hk : G.length = k) (hp : L[k]? = some (pv, X)) (hX : X = marked b v k) (ho : Row kB 5 w.heap.size W1 (v1, X ++ [100 + (k : Int)]))
    (hg : W.grownBy W1 pv.ownBlock) (hat : v1.ownBlock = pv.ownBlock ∨ ∃ j, v1.ownBlock = some j ∧ W.heap.size ≤ j) (hkeep : Row kB 5 w.heap.size W1 (pv, X)) : Lo w W1 b v L vall vu H0 vl hl (G ++ [(v1, X ++ [100 + (k : Int)])]) := by
  have hkl := (List.getElem?_eq_some_iff.1 hp).1
  have hp' : (L ++ [(vu, b ++ [77, 88])])[k]? = some (pv, X) := by rw [List.getElem?_append_left hkl]; exact hp
  refine ⟨?_, Nat.le_trans h.h hg.size, h.o, fun i q hq => ?_⟩
  · have := h.S.setB hp' hg hkeep (.inl rfl)
    rwa [set_self hp'] at this
  · by_cases hi : i < G.length
    · rw [List.getElem?_append_left hi] at hq
      obtain ⟨h1, h2, h3⟩ := h.g i q hq
      refine ⟨h1.other (u := pv) rfl hg ?_, h2, h3⟩
      rcases h3 with ⟨p, h3, h4⟩ | ⟨j, h3, h4⟩
      · intro j hj he
        have hil := (List.getElem?_eq_some_iff.1 h3).1
        exact h.S.B.far (i := i) (j := k) (p := p) (by rw [List.getElem?_append_left hil]; exact h3) hp' (by omega) j (h4 ▸ hj) he
      · intro j' hj he
        have := h.o (pv, X) (List.mem_of_getElem? hp) j' he
        rw [h3] at hj
        injection hj with hj
        omega
    · rw [List.getElem?_append_right (by omega)] at hq
      have hi0 : i - G.length = 0 := by
        have := (List.getElem?_eq_some_iff.1 hq).1
        simp at this
        omega
      obtain rfl : i = k := by omega
      rw [hi0] at hq
      obtain rfl := Option.some.inj hq
      refine ⟨ho, by rw [hX], ?_⟩
      rcases hat with hat | ⟨j, h1, h2⟩
      · exact .inl ⟨_, hp, hat⟩
      · exact .inr ⟨j, h1, Nat.le_trans h.h h2⟩
theorem Lo.below (h : Lo w W b v L vall vu H0 vl hl G) (hb : Below W.heap.size W W1) : Lo w W1 b v L vall vu H0 vl hl G := ⟨h.S.below hb, Nat.le_trans h.h hb.size, h.o, fun i q hq => ⟨(h.g i q hq).1.below hb, (h.g i q hq).2⟩⟩
theorem Lo.head (h : Lo w W b v L vall vu H0 vl hl G) {v2 : Value} {hl2 : List Hd} (ho : Row kH 22 w.heap.size W1 (v2, hl2)) (hg : W.grownBy W1 vl.ownBlock) (hat : v2.ownBlock = vl.ownBlock ∨ ∃ j, v2.ownBlock = some j ∧ W.heap.size ≤ j) : Lo w W1 b v L vall vu H0 v2 hl2 G :=
  ⟨h.S.setH (i := 1) (q := (v2, hl2)) rfl hg ho hat, Nat.le_trans h.h hg.size, h.o, fun i q hq => ⟨(h.g i q hq).1.other (u := vl) rfl hg ((h.g i q hq).1.typed (h.S.H.row (i := 1) rfl) (by decide)), (h.g i q hq).2⟩⟩
end
end Go.Proofs.Ytenomaibgpbonaa.Tree
