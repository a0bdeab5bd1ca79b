/- The law plumblaw16.OctetReads answers true at every two lists of bytes and every script, walked. No condition but the machine's greatest length. -/
import Derived.Test.YtenomaibgpbonaaDoorPOctetReadso
import Derived.BigQuiet
import Derived.Deep.RegionHeld3
namespace Go.Proofs.YtenomaibgpbonaaDoor.Pure
open Go.RowKit Go.Proofs.YtenomaibgpbonaaDoorW.PrintWords Go.Proofs.YtenomaibgpbonaaDoorW.PrintLast Go.Proofs.YtenomaibgpbonaaDoorW.PrintMore Go.Proofs.YtenomaibgpbonaaDoor.POctetReads Go.Proofs.YtenomaibgpbonaaDoor.Math
theorem same_l0 (xs : List Int) (hl : xs.length ≤ 140737488355328) (d : Nat) : ∀ k i : Nat, xs.length = i + d → d < k → plumblaw16_same.l0 k xs xs (i : Int) = some true := by
  induction d with
  | zero =>
    intro k i h hk
    obtain ⟨k, rfl⟩ : ∃ m, k = m + 1 := ⟨k - 1, by omega⟩
    simp only [plumblaw16_same.l0]
    rw [if_neg (by omega)]
  | succ d ih =>
    intro k i h hk
    obtain ⟨k, rfl⟩ : ∃ m, k = m + 1 := ⟨k - 1, by omega⟩
    simp only [plumblaw16_same.l0]
    rw [if_pos (by omega), if_pos (by omega), if_pos (by omega), if_pos trivial, show wrap64 ((i : Int) + 1) = ((i + 1 : Nat) : Int) from by unfold wrap64; omega]
    exact ih k (i + 1) (by omega) (by omega)
theorem same_spec (xs ys : List Int) (k : Nat) (e : ys = xs) (hl : xs.length ≤ 140737488355328) (hk : xs.length < k) : plumblaw16_same.f k xs ys = some true := by
  subst e
  unfold plumblaw16_same.f
  rw [if_pos rfl]
  exact same_l0 ys hl ys.length k 0 (by omega) hk
theorem kept_spec (b : List Int) (k : Nat) (hl : b.length ≤ 140737488351232) (hk : b.length < k) : plumblaw16_kept.f k (b ++ [77, 88]) b = some true := by
  unfold plumblaw16_kept.f
  have hlen : (b ++ [77, 88]).length = b.length + 2 := by simp
  have e2 : wrap64 ((b.length : Int) + 2) = (b.length : Int) + 2 := by unfold wrap64; omega
  have e1 : wrap64 ((b.length : Int) + 1) = ((b.length + 1 : Nat) : Int) := by unfold wrap64; omega
  rw [hlen, e2, e1, if_pos (by omega), if_pos (by omega), if_pos (by omega), Int.toNat_natCast, List.take_left, same_spec b b k rfl (by omega) hk, Option.bind_some, if_pos rfl, if_pos (by omega),
    if_pos (by simp [rd, List.getD_eq_getElem?_getD]), if_pos (by omega), if_pos (by omega)]
  have : rd (b ++ [77, 88]) ((b.length + 1 : Nat) : Int) = 88 := by
    simp only [rd, Int.toNat_natCast, List.getD_eq_getElem?_getD]
    rw [List.getElem?_append_right (by omega), Nat.add_sub_cancel_left]
    rfl
  rw [this]; rfl
theorem lent_spec (b : List Int) (hl : b.length ≤ 140737488351232) : plumblaw16_lent.f b = some (b ++ [77, 88]) := by
  unfold plumblaw16_lent.f
  rw [if_pos (by simp; omega)]
  simp only [Option.bind_some, List.nil_append]
  rw [if_pos (by simp; omega)]

theorem R_first {w : World} {base : Nat} {ok : Nat → Prop} {v : Value} {xs : List Int} (h : Kd.R (Kd.int .u8) 5 w base ok v xs) (hn : xs ≠ []) : ∃ g c, v = .slice (some ⟨g, 0, none⟩) xs.length c := by
  obtain ⟨inner, h1, h2⟩ := Kd.R_own h
  rcases h2 with ⟨_, h0⟩ | ⟨g, cap, cur, rfl, _⟩
  · exact absurd (List.length_eq_zero_iff.1 (by omega)) hn
  · exact ⟨g, cap, rfl⟩
/-- The script's calls, as they stand. -/
def Script (w : World) (A : Option Addr) (n : Nat) : Prop := ∀ i : Nat, i < n → ∃ ad kk ll, A = some ad ∧ w.cell? (ad.add (i * 2)) = some (.int .i64 kk) ∧ w.cell? ⟨(ad.add (i * 2)).block, (ad.add (i * 2)).off + 1, none⟩ = some (.bool ll)
theorem lent_take {w : World} {A : Option Addr} {a : List Int} (h : Kd.C (Kd.int .u8) w A (a ++ [77, 88]).length (a ++ [77, 88])) : Kd.C (Kd.int .u8) w A a.length a := by
  have := Kd.C_take h (m := a.length) (by simp)
  rwa [List.take_left] at this
theorem kept_ok (A A0 : Option Addr) (c c0 : Nat) (a : List Int) (w : World) (h : Kd.C (Kd.int .u8) w A (a ++ [77, 88]).length (a ++ [77, 88])) (hc : a.length + 2 ≤ c) (hr0 : Kd.C (Kd.int .u8) w A0 a.length a) (hc0 : a.length ≤ c0) (ha : a.length ≤ 140737488351232) :
    Calls Tryd.prog 11 #[.slice A (a.length + 2) c, .slice A0 a.length c0] w fun e w' => e = .returned (.bool true) ∧ Drawn0 w w' := by
  have := plumblaw16_kept.calls (a.length + 1) A c (a ++ [77, 88]) A0 c0 a true w h (by simpa using hc) hr0 hc0 (kept_spec a _ ha (by omega))
  rwa [show (a ++ ([77, 88] : List Int)).length = a.length + 2 from by simp] at this
theorem IsPQ.cells {W : World} {lo g : Nat} {l : List Int} {f1 f2 f3 : Int} (h : IsPQ W lo g l f1 f2 f3) : ∃ A c, W.cell? ⟨g, 0, none⟩ = some (.slice A l.length c) ∧ W.cell? ⟨g, 1, none⟩ = some (.int .i64 f1) ∧ W.cell? ⟨g, 2, none⟩ = some (.int .i64 f2) ∧ W.cell? ⟨g, 3, none⟩ = some (.int .i64 f3) := by
  obtain ⟨A0, c0, h1, _⟩ := h
  exact ⟨A0, c0, cellQ_0 h1, cellQ_1 h1, cellQ_2 h1, cellQ_3 h1⟩
theorem same_true (at_ pos : Int) (bad : Bool) (h0 : 0 ≤ at_) (hp : bad = true → pos = at_) : sameV (if bad = true then some (at_ * 1024 + 160) else none) (errc bad) pos = true := by
  cases bad
  · simp [sameV, errc]
  · obtain rfl := hp rfl
    have e1 : (pos * 1024 + 160) / 1024 = pos := by omega
    have e2 : (pos * 1024 + 160) % 1024 = 160 := by omega
    simp [sameV, errc, e1, e2]
section
variable {w : World} {g h : Nat} {l : List Int} {at_ pos : Int} {bad : Bool}
theorem Pair.lt1 (hp : Pair w g h l at_ pos bad) : g < w.heap.size := hp.1.lt
theorem Pair.one {w' : World} (hp : Pair w g h l at_ pos bad) (hne : g ≠ h) (hi : IsP w' 0 g l at_ bad) (hk : KeepBut w w' g none) : Pair w' g h l at_ pos bad := ⟨hi, hp.2.1.keep hk (Ne.symm hne) hp.1.nobyte, hp.2.2⟩
theorem Pair.at_calls (hp : Pair w g h l at_ pos bad) (hne : g ≠ h) : Calls Tryd.prog 13 #[.pointer (some ⟨g, 0, none⟩)] w fun e w' => e = .returned (.int .i64 at_) ∧ Pair w' g h l at_ pos bad ∧ Kept w w' (fun x => x = g) ∧ Below g w w' := by
  refine (at_P g l at_ bad w hp.1).mono ?_
  rintro e w' ⟨he, hi, hb, hk⟩
  exact ⟨he, hp.one hne hi hk, Kept.of_keep (Kept.refl w _) hk (.inl rfl), hb⟩
theorem Pair.left_calls (hp : Pair w g h l at_ pos bad) (hne : g ≠ h) : Calls Tryd.prog 14 #[.pointer (some ⟨g, 0, none⟩)] w fun e w' => e = .returned (.int .i64 (wrap64 ((l.length : Int) - at_))) ∧ Pair w' g h l at_ pos bad ∧ Kept w w' (fun x => x = g) ∧ Below g w w' := by
  refine (left_P g l at_ bad w hp.1).mono ?_
  rintro e w' ⟨he, hi, hb, hk⟩
  exact ⟨he, hp.one hne hi hk, Kept.of_keep (Kept.refl w _) hk (.inl rfl), hb⟩
theorem Pair.err_calls (hp : Pair w g h l at_ pos bad) (hne : g ≠ h) : Calls Tryd.prog 16 #[.pointer (some ⟨g, 0, none⟩)] w fun e w' => ∃ ev, e = .returned ev ∧ EV w' ev (if bad = true then some (at_ * 1024 + 160) else none) ∧ Pair w' g h l at_ pos bad ∧ Kept w w' (fun x => x = g) ∧ Below g w w' := by
  refine (err_P g l at_ bad w hp.1).mono ?_
  rintro e w' ⟨ev, he, hv, hi, hb, hk⟩
  exact ⟨ev, he, hv, hp.one hne hi hk, Kept.of_keep (Kept.refl w _) hk (.inl rfl), hb⟩
theorem Pair.same_calls (hp : Pair w g h l at_ pos bad) (hg : Handle w) {ev : Value} (hv : EV w ev (if bad = true then some (at_ * 1024 + 160) else none)) : Calls Tryd.prog 15 #[ev, .int .i64 (errc bad), .int .i64 pos] w fun e w' => e = .returned (.bool true) ∧ Below w.heap.size w w' := by
  have := Go.Proofs.YtenomaibgpbonaaDoor.same_calls ev _ (errc bad) pos w hg hv
  rwa [same_true at_ pos bad hp.2.2.2.1 hp.2.2.1] at this
/-- One pair is written: the other stays. -/
theorem Pair.other {w' : World} {g2 h2 : Nat} {l2 : List Int} {at2 pos2 : Int} {bad2 : Bool} (hp : Pair w g h l at_ pos bad) (h2p : Pair w g2 h2 l2 at2 pos2 bad2) (hk : Kept w w' (fun x => x = g2 ∨ x = h2)) (hg : g ≠ g2 ∧ g ≠ h2) (hh : h ≠ g2 ∧ h ≠ h2) : Pair w' g h l at_ pos bad :=
  hp.kept hk (fun e => e.elim hg.1 hg.2) (fun e => e.elim hh.1 hh.2) (fun x e => by
    rcases e with rfl | rfl
    · exact h2p.1.nobyte
    · exact h2p.2.1.nobyte)
end
theorem kept_cell {W W' : World} {S : Nat → Prop} (hk : Kept W W' S) {x : Addr} {v : Value} (h : W.cell? x = some v) (hn : ¬ S x.block) : W'.cell? x = some v := by
  have hl := cell_lt h
  unfold World.cell? at h ⊢
  rw [hk.2 _ hl hn]
  exact h
/-- The cells of the reference's two readers that the law looks at. -/
def Held (gp gq : Nat) (v0 v1 v2 v3 u0 u1 u2 u3 : Value) (W : World) : Prop := (W.cell? ⟨gp, 0, none⟩ = some v0 ∧ W.cell? ⟨gp, 1, none⟩ = some v1 ∧ W.cell? ⟨gp, 2, none⟩ = some v2 ∧ W.cell? ⟨gp, 3, none⟩ = some v3) ∧ (W.cell? ⟨gq, 0, none⟩ = some u0 ∧ W.cell? ⟨gq, 1, none⟩ = some u1 ∧ W.cell? ⟨gq, 2, none⟩ = some u2 ∧ W.cell? ⟨gq, 3, none⟩ = some u3)
theorem held_kept {gp gq : Nat} {v0 v1 v2 v3 u0 u1 u2 u3 : Value} {W W' : World} {S : Nat → Prop} (h : Held gp gq v0 v1 v2 v3 u0 u1 u2 u3 W) (hk : Kept W W' S) (h1 : ¬ S gp) (h2 : ¬ S gq) : Held gp gq v0 v1 v2 v3 u0 u1 u2 u3 W' :=
  ⟨⟨kept_cell hk h.1.1 h1, kept_cell hk h.1.2.1 h1, kept_cell hk h.1.2.2.1 h1, kept_cell hk h.1.2.2.2 h1⟩, ⟨kept_cell hk h.2.1 h2, kept_cell hk h.2.2.1 h2, kept_cell hk h.2.2.2.1 h2, kept_cell hk h.2.2.2.2 h2⟩⟩
theorem held_flat {gp gq : Nat} {v0 v1 v2 v3 u0 u1 u2 u3 : Value} {W : World} (h : Held gp gq v0 v1 v2 v3 u0 u1 u2 u3 W) : W.cell? ⟨gp, 0, none⟩ = some v0 ∧ W.cell? ⟨gp, 1, none⟩ = some v1 ∧ W.cell? ⟨gp, 2, none⟩ = some v2 ∧ W.cell? ⟨gp, 3, none⟩ = some v3 ∧ W.cell? ⟨gq, 0, none⟩ = some u0 ∧ W.cell? ⟨gq, 1, none⟩ = some u1 ∧ W.cell? ⟨gq, 2, none⟩ = some u2 ∧ W.cell? ⟨gq, 3, none⟩ = some u3 :=
  ⟨h.1.1, h.1.2.1, h.1.2.2.1, h.1.2.2.2, h.2.1, h.2.2.1, h.2.2.2.1, h.2.2.2.2⟩
/-- What the walk holds of a world: the two pairs, the cells, what lay there before. -/
structure Now (w : World) (gr gp gs gq : Nat) (a b : List Int) (at1 ps1 at2 ps2 : Int) (bd1 bd2 : Bool) (v0 u0 : Value) (W : World) : Prop where
  nd : (gr ≠ gp ∧ gs ≠ gq ∧ gr ≠ gs ∧ gr ≠ gq ∧ gp ≠ gs ∧ gp ≠ gq) ∧ (w.heap.size ≤ gr ∧ w.heap.size ≤ gs ∧ w.heap.size ≤ gp ∧ w.heap.size ≤ gq)
  pa : Pair W gr gp a at1 ps1 bd1
  pb : Pair W gs gq b at2 ps2 bd2
  hb : Below w.heap.size w W
  held : Held gp gq v0 (.int .i64 at1) (.int .i64 (errc bd1)) (.int .i64 ps1) u0 (.int .i64 at2) (.int .i64 (errc bd2)) (.int .i64 ps2) W
section
variable {w W W' : World} {gr gp gs gq : Nat} {a b : List Int} {at1 ps1 at2 ps2 : Int} {bd1 bd2 : Bool} {v0 u0 : Value}
theorem Now.afterR (n : Now w gr gp gs gq a b at1 ps1 at2 ps2 bd1 bd2 v0 u0 W) (hp : Pair W' gr gp a at1 ps1 bd1) (hk : Kept W W' (fun x => x = gr)) (hb : Below gr W W') : Now w gr gp gs gq a b at1 ps1 at2 ps2 bd1 bd2 v0 u0 W' := by
  have nd := n.nd
  exact ⟨n.nd, hp, n.pb.kept hk (by omega) (by omega) (fun x e => by subst e; exact n.pa.1.nobyte), n.hb.trans (hb.mono (by omega)), held_kept n.held hk (by omega) (by omega)⟩
theorem Now.afterS (n : Now w gr gp gs gq a b at1 ps1 at2 ps2 bd1 bd2 v0 u0 W) (hp : Pair W' gs gq b at2 ps2 bd2) (hk : Kept W W' (fun x => x = gs)) (hb : Below gs W W') : Now w gr gp gs gq a b at1 ps1 at2 ps2 bd1 bd2 v0 u0 W' := by
  have nd := n.nd
  exact ⟨n.nd, n.pa.kept hk (by omega) (by omega) (fun x e => by subst e; exact n.pb.1.nobyte), hp, n.hb.trans (hb.mono (by omega)), held_kept n.held hk (by omega) (by omega)⟩
theorem Now.below (n : Now w gr gp gs gq a b at1 ps1 at2 ps2 bd1 bd2 v0 u0 W) (hb : Below W.heap.size W W') : Now w gr gp gs gq a b at1 ps1 at2 ps2 bd1 bd2 v0 u0 W' := by
  have l1 := n.pa.2.1.lt
  have l2 := n.pb.2.1.lt
  exact ⟨n.nd, n.pa.below hb, n.pb.below hb, below_step n.hb hb, held_kept n.held (Kept.of_below hb (fun _ => False)) (fun h => h) (fun h => h)⟩
theorem left_eq {l : List Int} {x : Int} (hl : l.length ≤ 140737488351232) (h0 : 0 ≤ x) (h1 : x ≤ l.length) : wrap64 ((l.length : Int) - x) = (l.length : Int) - x := by unfold wrap64; omega
theorem Now.callAtR (n : Now w gr gp gs gq a b at1 ps1 at2 ps2 bd1 bd2 v0 u0 W) : Calls Tryd.prog 13 #[.pointer (some ⟨gr, 0, none⟩)] W fun e w' => e = .returned (.int .i64 at1) ∧ Now w gr gp gs gq a b at1 ps1 at2 ps2 bd1 bd2 v0 u0 w' := by
  refine (n.pa.at_calls n.nd.1.1).mono ?_
  rintro e w' ⟨he, hp, hk, hb⟩
  exact ⟨he, n.afterR hp hk hb⟩
theorem Now.callAtS (n : Now w gr gp gs gq a b at1 ps1 at2 ps2 bd1 bd2 v0 u0 W) : Calls Tryd.prog 13 #[.pointer (some ⟨gs, 0, none⟩)] W fun e w' => e = .returned (.int .i64 at2) ∧ Now w gr gp gs gq a b at1 ps1 at2 ps2 bd1 bd2 v0 u0 w' := by
  refine (n.pb.at_calls n.nd.1.2.1).mono ?_
  rintro e w' ⟨he, hp, hk, hb⟩
  exact ⟨he, n.afterS hp hk hb⟩
theorem Now.callLeftR (n : Now w gr gp gs gq a b at1 ps1 at2 ps2 bd1 bd2 v0 u0 W) (ha : a.length ≤ 140737488351232) : Calls Tryd.prog 14 #[.pointer (some ⟨gr, 0, none⟩)] W fun e w' => e = .returned (.int .i64 ((a.length : Int) - at1)) ∧ Now w gr gp gs gq a b at1 ps1 at2 ps2 bd1 bd2 v0 u0 w' := by
  refine (n.pa.left_calls n.nd.1.1).mono ?_
  rintro e w' ⟨he, hp, hk, hb⟩
  rw [left_eq ha n.pa.2.2.2.1 n.pa.2.2.2.2] at he
  exact ⟨he, n.afterR hp hk hb⟩
theorem Now.callLeftS (n : Now w gr gp gs gq a b at1 ps1 at2 ps2 bd1 bd2 v0 u0 W) (hb0 : b.length ≤ 140737488351232) : Calls Tryd.prog 14 #[.pointer (some ⟨gs, 0, none⟩)] W fun e w' => e = .returned (.int .i64 ((b.length : Int) - at2)) ∧ Now w gr gp gs gq a b at1 ps1 at2 ps2 bd1 bd2 v0 u0 w' := by
  refine (n.pb.left_calls n.nd.1.2.1).mono ?_
  rintro e w' ⟨he, hp, hk, hb⟩
  rw [left_eq hb0 n.pb.2.2.2.1 n.pb.2.2.2.2] at he
  exact ⟨he, n.afterS hp hk hb⟩
/-- Beside that: the error that was told just now. -/
def NowE (w : World) (gr gp gs gq : Nat) (a b : List Int) (at1 ps1 at2 ps2 : Int) (bd1 bd2 : Bool) (v0 u0 : Value) (ev : Value) (x : Option Int) (W : World) : Prop := Now w gr gp gs gq a b at1 ps1 at2 ps2 bd1 bd2 v0 u0 W ∧ EV W ev x
theorem Now.callErrR (n : Now w gr gp gs gq a b at1 ps1 at2 ps2 bd1 bd2 v0 u0 W) : Calls Tryd.prog 16 #[.pointer (some ⟨gr, 0, none⟩)] W fun e w' => ∃ ev, e = .returned ev ∧ NowE w gr gp gs gq a b at1 ps1 at2 ps2 bd1 bd2 v0 u0 ev (if bd1 = true then some (at1 * 1024 + 160) else none) w' := by
  refine (n.pa.err_calls n.nd.1.1).mono ?_
  rintro e w' ⟨ev, he, hv, hp, hk, hb⟩
  exact ⟨ev, he, n.afterR hp hk hb, hv⟩
theorem Now.callErrS (n : Now w gr gp gs gq a b at1 ps1 at2 ps2 bd1 bd2 v0 u0 W) : Calls Tryd.prog 16 #[.pointer (some ⟨gs, 0, none⟩)] W fun e w' => ∃ ev, e = .returned ev ∧ NowE w gr gp gs gq a b at1 ps1 at2 ps2 bd1 bd2 v0 u0 ev (if bd2 = true then some (at2 * 1024 + 160) else none) w' := by
  refine (n.pb.err_calls n.nd.1.2.1).mono ?_
  rintro e w' ⟨ev, he, hv, hp, hk, hb⟩
  exact ⟨ev, he, n.afterS hp hk hb, hv⟩
theorem NowE.callSameR {ev : Value} (n : NowE w gr gp gs gq a b at1 ps1 at2 ps2 bd1 bd2 v0 u0 ev (if bd1 = true then some (at1 * 1024 + 160) else none) W) (hH : Handle w) : Calls Tryd.prog 15 #[ev, .int .i64 (errc bd1), .int .i64 ps1] W fun e w' => e = .returned (.bool true) ∧ Now w gr gp gs gq a b at1 ps1 at2 ps2 bd1 bd2 v0 u0 w' := by
  refine (n.1.pa.same_calls (Handle_below hH n.1.hb) n.2).mono ?_
  rintro e w' ⟨he, hb⟩
  exact ⟨he, n.1.below hb⟩
theorem NowE.callSameS {ev : Value} (n : NowE w gr gp gs gq a b at1 ps1 at2 ps2 bd1 bd2 v0 u0 ev (if bd2 = true then some (at2 * 1024 + 160) else none) W) (hH : Handle w) : Calls Tryd.prog 15 #[ev, .int .i64 (errc bd2), .int .i64 ps2] W fun e w' => e = .returned (.bool true) ∧ Now w gr gp gs gq a b at1 ps1 at2 ps2 bd1 bd2 v0 u0 w' := by
  refine (n.1.pb.same_calls (Handle_below hH n.1.hb) n.2).mono ?_
  rintro e w' ⟨he, hb⟩
  exact ⟨he, n.1.below hb⟩
end
theorem step_i {i k1 n2 : Nat} (hi : i + (k1 + 1) = 2 * n2 + 2 ∧ i ≤ 2 * n2 + 1) (c : i ≤ 2 * n2) : i + 1 + k1 = 2 * n2 + 2 ∧ i + 1 ≤ 2 * n2 + 1 := by omega
set_option maxHeartbeats 8000000 in
set_option maxRecDepth 100000 in
theorem law_calls (A0 A1 A2 : Option Addr) (c0 c1 n2 c2 : Nat) (a b : List Int) (w : World) (hH : Handle w) (hr0 : Kd.C (Kd.int .u8) w A0 a.length a) (hc0 : a.length ≤ c0) (hr1 : Kd.C (Kd.int .u8) w A1 b.length b) (hc1 : b.length ≤ c1)
    (hs : Script w A2 n2) (ha : a.length ≤ 140737488351232) (hb : b.length ≤ 140737488351232) (hn2 : n2 ≤ 140737488351232) (hba : ∀ x ∈ a, 0 ≤ x ∧ x < 256) (hbb : ∀ x ∈ b, 0 ≤ x ∧ x < 256) :
    Calls Tryd.prog 3 #[.slice A0 a.length c0, .slice A1 b.length c1, .slice A2 n2 c2] w fun e w' => e = .returned (.bool true) ∧ Below w.heap.size w w' := by
  have HR0 := Aside0.mk hr0
  have HR1 := Aside0.mk hr1
  have HS := Aside0.mk hs
  have HH := Aside0.mk hH
  have BA := Aside0.mk hba
  have BB := Aside0.mk hbb
  clear hr0 hr1 hs hH hba hbb
  have q1 : (0 ≤ ((a.length : Nat) : Int)) = True := eq_true (by omega)
  have q2 : (0 ≤ ((b.length : Nat) : Int)) = True := eq_true (by omega)
  go_enter Tryd.func3, Tryd.ntmps3
  go_wp2_with fail
  refine (plumblaw16_lent.calls A0 c0 a (a ++ [77, 88]) w HR0.out hc0 (lent_spec a ha)).mono ?_
  rintro e w1 ⟨v0, rfl, o1, b1⟩
  obtain ⟨gl, cl, rfl⟩ := R_first o1 (by simp)
  have O1 := Aside0.mk o1
  have B1 := Aside0.mk b1
  clear o1 b1
  go_wp2_with fail
  refine (plumblaw16_lent.calls A1 c1 b (b ++ [77, 88]) w1 (Kd.C_below HR1.out B1.out) hc1 (lent_spec b hb)).mono ?_
  rintro e w2 ⟨v0, rfl, o2, b2⟩
  obtain ⟨gm, cm, rfl⟩ := R_first o2 (by simp)
  have O2 := Aside0.mk o2
  have B2 := Aside0.mk (b2)
  clear o2 b2
  have hcl := (Kd.R_reads' O1.out).2.1
  have hcm := (Kd.R_reads' O2.out).2.1
  have el : (a ++ [77, 88]).length = a.length + 2 := by simp
  have em : (b ++ [77, 88]).length = b.length + 2 := by simp
  rw [el] at hcl
  rw [em] at hcm
  have q3 : ((a.length : Int) ≤ (cl : Int)) = True := eq_true (by omega)
  have q4 : ((b.length : Int) ≤ (cm : Int)) = True := eq_true (by omega)
  have HN := Aside0.mk (And.intro (And.intro hcl hcm) (And.intro el em))
  clear hcl hcm el em
  go_wp2_with fail
  refine (newreader_own (some ⟨gl, 0, none⟩) cl a w2 (Kd.C_below (lent_take (Kd.R_reads' O1.out).2.2) B2.out) (by have := HN.out.1.1; omega) (by omega)).mono ?_
  rintro e w3 ⟨gr, rfl, hgr, i3, b3⟩
  have I3 := Aside0.mk i3
  have B3 := Aside0.mk b3
  have G3 := Aside0.mk hgr
  clear i3 b3 hgr
  go_wp2_with fail
  refine (newreader_own (some ⟨gm, 0, none⟩) cm b w3 (Kd.C_below (lent_take (Kd.R_reads' O2.out).2.2) B3.out) (by have := HN.out.1.2; omega) (by omega)).mono ?_
  rintro e w4 ⟨gs, rfl, hgs, i4, b4⟩
  have I4 := Aside0.mk i4
  have B4 := Aside0.mk b4
  have G4 := Aside0.mk hgs
  clear i4 b4 hgs
  go_wp2_with fail
  have BW4 := Aside0.mk (below_step (below_step (below_step B1.out B2.out) B3.out) B4.out)
  refine (new_own A0 c0 a w4 (Kd.C_below HR0.out BW4.out) hc0 (by omega)).mono ?_
  rintro e w5 ⟨gp, rfl, hgp, i5, b5⟩
  have I5 := Aside0.mk i5
  have B5 := Aside0.mk b5
  have G5 := Aside0.mk hgp
  clear i5 b5 hgp
  go_wp2_with fail
  refine (new_own A1 c1 b w5 (Kd.C_below HR1.out (below_step BW4.out B5.out)) hc1 (by omega)).mono ?_
  rintro e w6 ⟨gq, rfl, hgq, i6, b6⟩
  have I6 := Aside0.mk i6
  have B6 := Aside0.mk b6
  have G6 := Aside0.mk hgq
  clear i6 b6 hgq
  go_wp2_with fail
  have BW6 := Aside0.mk (below_step (below_step BW4.out B5.out) B6.out)
  refine (kept_ok _ A0 cl c0 a w6 (Kd.C_below (Kd.R_reads' O1.out).2.2 (below_step (below_step (below_step (below_step B2.out B3.out) B4.out) B5.out) B6.out)) HN.out.1.1 (Kd.C_below HR0.out BW6.out) hc0 ha).mono ?_
  rintro e w7 ⟨rfl, hd7⟩
  have D7 := Aside0.mk (show Below w6.heap.size w6 w7 from by obtain ⟨n, rfl⟩ := hd7; exact pw_below_drewN (Below.refl _ _) _)
  clear hd7
  go_wp2_with fail
  refine (kept_ok _ A1 cm c1 b _ (Kd.C_below (Kd.R_reads' O2.out).2.2 (below_step (below_step (below_step (below_step B3.out B4.out) B5.out) B6.out) D7.out)) HN.out.1.2 (Kd.C_below (Kd.C_below HR1.out BW6.out) D7.out) hc1 hb).mono ?_
  rintro e w8 ⟨rfl, hd8⟩
  have D8 : Below w6.heap.size w6 w8 := below_step D7.out (show Below w7.heap.size w7 w8 from by obtain ⟨n, rfl⟩ := hd8; exact pw_below_drewN (Below.refl _ _) _)
  clear hd8 D7
  have F3 := Aside0.mk (((I3.out.below B4.out).below (below_step B5.out B6.out)).below D8)
  have F4 := Aside0.mk ((I4.out.below (below_step B5.out B6.out)).below D8)
  have F5 := Aside0.mk ((I5.out.below B6.out).below D8)
  have F6 := Aside0.mk (I6.out.below D8)
  have BW8 := Aside0.mk (below_step BW6.out D8)
  have HL := Aside0.mk (show gl < w2.heap.size from Nat.lt_of_lt_of_le (Kd.R_lt O1.out gl rfl) B2.out.size)
  have hol := Kd.R_below O1.out (below_step (below_step (below_step (below_step (below_step B2.out B3.out) B4.out) B5.out) B6.out) D8)
  rw [HN.out.2.1] at hol
  have OL := Aside0.mk hol
  have OR3 := Aside0.mk (And.intro (And.intro G3.out I3.out.lt) (And.intro (And.intro G4.out I4.out.lt) (And.intro (And.intro G5.out I5.out.lt) G6.out)))
  have BN := Aside0.mk (below_step B1.out B2.out).size
  clear hol D8 I3 I4 I5 I6 B3 B4 B5 B6 O1 O2 B1 B2 BW4 BW6 q3 q4
  go_wp2_with fail
  obtain ⟨k, hk⟩ : ∃ k : Nat, k = a.length + 3 := ⟨_, rfl⟩
  have HK := Aside0.mk hk
  clear hk
  go_loopg [13] k (fun kq v13 wx => ∃ i : Int, v13 = .int .i64 i ∧ Aside0 (0 ≤ i ∧ i + kq = a.length + 3 ∧ i ≤ a.length + 2) ∧ Aside0 (∃ xs : List Int, xs.length = a.length + 2 ∧ Kd.R (Kd.int .u8) 5 wx w.heap.size (fun _ => True) (.slice (some ⟨gl, 0, none⟩) (a.length + 2) cl) xs) ∧ Aside0 (Below w.heap.size w wx) ∧ Aside0 (Kept w8 wx (fun x => x = gl)))
  case atStart => exact ⟨0, rfl, ⟨by omega, by rw [HK.out]; omega, by omega⟩, ⟨_, HN.out.2.1, OL.out⟩, BW8, ⟨Kept.refl _ _⟩⟩
  case round =>
    obtain ⟨i, rfl, HI, HX, HB, HKP⟩ := hrel
    cases gk with
    | zero => exact absurd HI.out (by omega)
    | succ k1 =>
      have hi := HI.out
      by_cases c : i < (a.length : Int) + 2
      · have c1 : decide (i < (a.length : Int) + 2) = true := decide_eq_true c
        obtain ⟨xs, hxl, hxo⟩ := HX.out
        obtain ⟨hy, hz⟩ := Kd.R_celln (0 : Int) hxo i hi.1 (by omega)
        have HQ := Aside0.mk (Kd.R_putg hxo i (238 : Int))
        have HBS := Aside0.mk (Kd.R_base hxo gl rfl)
        have HXL := Aside0.mk hxl
        have q3 : (0 ≤ i) = True := eq_true hi.1
        have q4 : (i < (a.length : Int) + 2) = True := eq_true c
        have q5 : IntKind.i64.wrap (i + 1) = i + 1 := by rw [i64_w]; unfold wrap64; omega
        have q6 : wrap64 (i + 1) = i + 1 := by unfold wrap64; omega
        clear hxo hxl
        go_wp2_with fail
        go_roundg k1
        case measure => omega
        case rel => exact ⟨i + 1, rfl, ⟨by omega, by omega, by omega⟩, ⟨_, by rw [List.length_set]; exact HXL.out, HQ.out.1⟩, ⟨below_set HB.out (HBS.out)⟩, ⟨Kept.setCell HKP.out (.inl rfl) _⟩⟩
      · have c1 : decide (i < (a.length : Int) + 2) = false := decide_eq_false c
        have kp := HKP.out
        have or3 := OR3.out
        have hl := HL.out
        have bn := BN.out
        have l3 := F3.out.lt
        have l4 := F4.out.lt
        have l5 := F5.out.lt
        have l6 := F6.out.lt
        have PA := Aside0.mk (show ∃ at_ pos bad, Pair wr gr gp a at_ pos bad from ⟨0, 0, false, (F3.out.same or3.1.1 (fun j h1 h2 => kp.2 j (by omega) (by omega))).zero, (F5.out.same or3.2.2.1.1 (fun j h1 h2 => kp.2 j (by omega) (by omega))).zero, (fun h => absurd h (by decide)), Int.le_refl _, by omega⟩)
        have PB := Aside0.mk (show ∃ at_ pos bad, Pair wr gs gq b at_ pos bad from ⟨0, 0, false, (F4.out.same or3.2.1.1 (fun j h1 h2 => kp.2 j (by omega) (by omega))).zero, (F6.out.same or3.2.2.2 (fun j h1 h2 => kp.2 j (by omega) (by omega))).zero, (fun h => absurd h (by decide)), Int.le_refl _, by omega⟩)
        have ND := Aside0.mk (show (gr ≠ gp ∧ gs ≠ gq ∧ gr ≠ gs ∧ gr ≠ gq ∧ gp ≠ gs ∧ gp ≠ gq) ∧ (w.heap.size ≤ gr ∧ w.heap.size ≤ gs ∧ w.heap.size ≤ gp ∧ w.heap.size ≤ gq) from by omega)
        clear kp or3 hl bn l3 l4 l5 l6 F3 F4 F5 F6 HKP OR3 HL BN HX BW8 OL HK hi
        go_wp2_with fail
        obtain ⟨k2, hk2⟩ : ∃ k : Nat, k = 2 * n2 + 2 := ⟨_, rfl⟩
        have HK2 := Aside0.mk hk2
        clear hk2
        go_loopg [14] k2 (fun kq v14 wx => ∃ i : Nat, v14 = .int .i64 (i : Int) ∧ Aside0 (i + kq = 2 * n2 + 2 ∧ i ≤ 2 * n2 + 1) ∧ Aside0 (∃ at_ pos bad, Pair wx gr gp a at_ pos bad) ∧ Aside0 (∃ at_ pos bad, Pair wx gs gq b at_ pos bad) ∧ Aside0 (Below w.heap.size w wx))
        case atStart => exact ⟨0, rfl, ⟨by have := HK2.out; omega, by omega⟩, PA, PB, HB⟩
        case round =>
          clear HB PA PB
          obtain ⟨i, rfl, HI, PA, PB, HB⟩ := hrel
          cases gk with
          | zero => exact absurd HI.out (by omega)
          | succ k1 =>
            have hi := HI.out
            have m1 : IntKind.i64.wrap (2 * (n2 : Int)) = 2 * (n2 : Int) := by rw [i64_w]; unfold wrap64; omega
            have m2 : wrap64 (2 * (n2 : Int)) = 2 * (n2 : Int) := by unfold wrap64; omega
            by_cases c : i ≤ 2 * n2
            · have d1 : decide ((i : Int) ≤ 2 * (n2 : Int)) = true := decide_eq_true (by omega)
              go_upto_if 72 with (fail)
              go_cut [] (fun wz => Aside0 (∃ at_ pos bad, Pair wz gr gp a at_ pos bad) ∧ Aside0 (∃ at_ pos bad, Pair wz gs gq b at_ pos bad) ∧ Aside0 (Below w.heap.size w wz))
              case first =>
                by_cases ce : i < 2 * n2
                · have d2 : decide ((i : Int) < 2 * (n2 : Int)) = true := decide_eq_true (by omega)
                  obtain ⟨j, hj⟩ : ∃ j : Nat, j = i / 2 := ⟨_, rfl⟩
                  obtain ⟨ad, kk, ll, rfl, k1c, k2c⟩ := HS.out j (by omega)
                  have kc1 := (HB.out.cell (World.block_lt_of_cell? w _ k1c)).trans k1c
                  have kc2 := (HB.out.cell (World.block_lt_of_cell? w _ k2c)).trans k2c
                  have m3 : Int.tdiv (i : Int) 2 = (j : Int) := by rw [Int.tdiv_eq_ediv_of_nonneg (by omega)]; omega
                  have m4 : IntKind.i64.wrap (j : Int) = (j : Int) := by rw [i64_w]; unfold wrap64; omega
                  have m5 : (0 ≤ (j : Int)) = True := eq_true (by omega)
                  have m6 : ((j : Int) < (n2 : Int)) = True := eq_true (by omega)
                  have HJ := Aside0.mk hj
                  have hu31 := Tryd.underlying31
                  clear k1c k2c hj
                  obtain ⟨at1, ps1, bd1, pa⟩ := PA.out
                  obtain ⟨at2, ps2, bd2, pb⟩ := PB.out
                  have PA1 := Aside0.mk (pa.below (below_alloc (Below.refl _ _) (.cells #[.int .i64 kk, .bool ll] 31 (0, 0))))
                  have PB1 := Aside0.mk (pb.below (below_alloc (Below.refl _ _) (.cells #[.int .i64 kk, .bool ll] 31 (0, 0))))
                  have HB1 := Aside0.mk (below_step HB.out (below_alloc (Below.refl _ _) (.cells #[.int .i64 kk, .bool ll] 31 (0, 0))))
                  clear pa pb PA PB HB
                  by_cases cp : i % 2 = 0
                  · have m7 : Int.tmod (i : Int) 2 = 0 := by rw [Int.tmod_eq_emod_of_nonneg (by omega)]; omega
                    go_wp2_with fail
                    refine (step_any gr gp a at1 ps1 bd1 ll kk _ (by omega) BA.out ND.out.1.1 PA1.out).mono ?_
                    rintro e wz ⟨rfl, pa, hk, hbl⟩
                    have PA := Aside0.mk pa
                    have PB := Aside0.mk (show ∃ at_ pos bad, Pair wz gs gq b at_ pos bad from ⟨_, _, _, PB1.out.other PA1.out hk ⟨Ne.symm ND.out.1.2.2.1, Ne.symm ND.out.1.2.2.2.2.1⟩ ⟨Ne.symm ND.out.1.2.2.2.1, Ne.symm ND.out.1.2.2.2.2.2⟩⟩)
                    have HB := Aside0.mk (HB1.out.trans (hbl.mono (by have := ND.out.2; omega)))
                    clear pa hk hbl PA1 PB1 HB1 kc1 kc2 m3 m4 m5 m6 HJ
                    go_wp2_with fail
                    go_meet
                    case rel => exact ⟨PA, PB, HB⟩
                  · have m7 : Int.tmod (i : Int) 2 = 1 := by rw [Int.tmod_eq_emod_of_nonneg (by omega)]; omega
                    go_wp2_with fail
                    refine (step_any gs gq b at2 ps2 bd2 ll kk _ (by omega) BB.out ND.out.1.2.1 PB1.out).mono ?_
                    rintro e wz ⟨rfl, pb, hk, hbl⟩
                    have PB := Aside0.mk pb
                    have PA := Aside0.mk (show ∃ at_ pos bad, Pair wz gr gp a at_ pos bad from ⟨_, _, _, PA1.out.other PB1.out hk ⟨ND.out.1.2.2.1, ND.out.1.2.2.2.1⟩ ⟨ND.out.1.2.2.2.2.1, ND.out.1.2.2.2.2.2⟩⟩)
                    have HB := Aside0.mk (HB1.out.trans (hbl.mono (by have := ND.out.2; omega)))
                    clear pb hk hbl PA1 PB1 HB1 kc1 kc2 m3 m4 m5 m6 HJ
                    go_wp2_with fail
                    go_meet
                    case rel => exact ⟨PA, PB, HB⟩
                · have d2 : decide ((i : Int) < 2 * (n2 : Int)) = false := decide_eq_false (by omega)
                  go_wp2_with fail
                  go_meet
                  case rel => exact ⟨PA, PB, HB⟩
              case rest =>
                clear PA PB HB
                obtain ⟨PA, PB, HB⟩ := hcut
                go_wp2_with fail
                obtain ⟨at1, ps1, bd1, pa⟩ := PA.out
                obtain ⟨at2, ps2, bd2, pb⟩ := PB.out
                obtain ⟨Ap, cp, p0, p1, p2, p3⟩ := pa.2.1.cells
                obtain ⟨Aq, cq, s0, s1, s2, s3⟩ := pb.2.1.cells
                have e1 : IntKind.i64.wrap ((a.length : Int) - at1) = (a.length : Int) - at1 := (i64_w _).trans (left_eq ha pa.2.2.2.1 pa.2.2.2.2)
                have e2 : IntKind.i64.wrap ((b.length : Int) - at2) = (b.length : Int) - at2 := (i64_w _).trans (left_eq hb pb.2.2.2.1 pb.2.2.2.2)
                have NW := Aside0.mk ((⟨ND.out, pa, pb, HB.out, ⟨⟨p0, p1, p2, p3⟩, ⟨s0, s1, s2, s3⟩⟩⟩ : Now w gr gp gs gq a b at1 ps1 at2 ps2 bd1 bd2 (.slice Ap a.length cp) (.slice Aq b.length cq) wc).below (below_drew (Below.refl _ _)))
                clear pa pb p0 p1 p2 p3 s0 s1 s2 s3 PA PB HB
                obtain ⟨er1, her1⟩ : ∃ er1, er1 = errc bd1 := ⟨_, rfl⟩
                obtain ⟨er2, her2⟩ : ∃ er2, er2 = errc bd2 := ⟨_, rfl⟩
                have HE1 := Aside0.mk her1
                have HE2 := Aside0.mk her2
                clear her1 her2
                have TK13 := Aside0.mk trivial
                have TK14 := Aside0.mk trivial
                have TK15 := Aside0.mk trivial
                have TK16 := Aside0.mk trivial
                go_region_held3 (fun w' => w'.cell? ⟨gp, 0, none⟩ = some (.slice Ap a.length cp) ∧ w'.cell? ⟨gp, 1, none⟩ = some (.int .i64 at1) ∧ w'.cell? ⟨gp, 2, none⟩ = some (.int .i64 er1) ∧ w'.cell? ⟨gp, 3, none⟩ = some (.int .i64 ps1) ∧ w'.cell? ⟨gq, 0, none⟩ = some (.slice Aq b.length cq) ∧ w'.cell? ⟨gq, 1, none⟩ = some (.int .i64 at2) ∧ w'.cell? ⟨gq, 2, none⟩ = some (.int .i64 er2) ∧ w'.cell? ⟨gq, 3, none⟩ = some (.int .i64 ps2))
                  (first | (rw [HE1.out, HE2.out]; exact held_flat NW.out.held) | (rw [HE1.out, HE2.out]; exact held_flat NE.out.1.held))
                  (first
                    | (go_at_call 13; clear TK13; refine (NW.out.callAtR).mono ?_; rintro e wn ⟨rfl, nw⟩; clear NW; have NW := Aside0.mk nw; clear nw)
                    | (go_at_call 13; refine (NW.out.callAtS).mono ?_; rintro e wn ⟨rfl, nw⟩; clear NW; have NW := Aside0.mk nw; clear nw)
                    | (go_at_call 14; clear TK14; refine (NW.out.callLeftR ha).mono ?_; rintro e wn ⟨rfl, nw⟩; clear NW; have NW := Aside0.mk nw; clear nw)
                    | (go_at_call 14; refine (NW.out.callLeftS hb).mono ?_; rintro e wn ⟨rfl, nw⟩; clear NW; have NW := Aside0.mk nw; clear nw)
                    | (go_at_call 16; clear TK16; refine (NW.out.callErrR).mono ?_; rintro e wn ⟨ev, rfl, nw⟩; clear NW; have NE := Aside0.mk nw; clear nw)
                    | (go_at_call 16; refine (NW.out.callErrS).mono ?_; rintro e wn ⟨ev2, rfl, nw⟩; clear NW; have NE := Aside0.mk nw; clear nw)
                    | (go_at_call 15; clear TK15; rw [HE1.out]; refine (NE.out.callSameR HH.out).mono ?_; rintro e wn ⟨rfl, nw⟩; clear NE; have NW := Aside0.mk nw; clear nw)
                    | (go_at_call 15; rw [HE2.out]; refine (NE.out.callSameS HH.out).mono ?_; rintro e wn ⟨rfl, nw⟩; clear NE; have NW := Aside0.mk nw; clear nw))
                have q9 : IntKind.i64.wrap ((i : Int) + 1) = ((i + 1 : Nat) : Int) := by rw [i64_w]; unfold wrap64; omega
                have q10 : wrap64 ((i : Int) + 1) = ((i + 1 : Nat) : Int) := by unfold wrap64; omega
                go_wp2_with fail
                go_roundg k1
                case measure => omega
                case rel => exact ⟨i + 1, rfl, ⟨step_i hi c⟩, ⟨_, _, _, NW.out.pa⟩, ⟨_, _, _, NW.out.pb⟩, ⟨NW.out.hb⟩⟩
            · have d1 : decide ((i : Int) ≤ 2 * (n2 : Int)) = false := decide_eq_false (by omega)
              go_wp2_with fail
              go_ret
              exact ⟨rfl, HB.out⟩
end Go.Proofs.YtenomaibgpbonaaDoor.Pure
