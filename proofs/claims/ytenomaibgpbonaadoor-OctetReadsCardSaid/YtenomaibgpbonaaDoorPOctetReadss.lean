/- One step on both readers gives the same answer. No conditions. -/
import Derived.Test.YtenomaibgpbonaaDoorPOctetReadsp
import Derived.BigQuiet
namespace Go.Proofs.YtenomaibgpbonaaDoor.Pure
open Go.RowKit Go.Proofs.YtenomaibgpbonaaDoorW.PrintWords Go.Proofs.YtenomaibgpbonaaDoorW.PrintLast Go.Proofs.YtenomaibgpbonaaDoorW.PrintMore Go.Proofs.YtenomaibgpbonaaDoor.POctetReads Go.Proofs.YtenomaibgpbonaaDoor.Math
/-- The reference's code of the error. -/
def errc (b : Bool) : Int := if b = true then 160 else 0
theorem take_num (l : List Int) (hl : l.length ≤ 140737488355328) (hb : ∀ x ∈ l, 0 ≤ x ∧ x < 256) (at_ : Int) (bad : Bool) (h0 : 0 ≤ at_) (h1 : at_ ≤ l.length) (n : Int) (hn : 0 < n ∧ n ≤ 8) (le : Bool) :
    ∃ (v at' : Int) (bad' : Bool), octet_Reader_take.f l at_ bad n le = some (v, at', bad') ∧ 0 ≤ v ∧ v < 256 ^ n.toNat ∧ 0 ≤ at' ∧ at' ≤ l.length ∧
      ∀ pos, (bad = true → pos = at_) → ∃ pos', (bad' = true → pos' = at') ∧ ∀ h w, IsPQ w 0 h l at_ (errc bad) pos →
        Calls Tryd.prog 29 #[.pointer (some ⟨h, 0, none⟩), .int .i64 n, .bool le] w fun e w' => e = .returned (.int .u64 v) ∧ IsPQ w' 0 h l at' (errc bad') pos' ∧ Below h w w' ∧ KeepBut w w' h none := by
  have hp : (0 : Int) < 256 ^ n.toNat := Int.pow_pos (by omega)
  cases bad with
  | true =>
    refine ⟨0, at_, true, by simp [octet_Reader_take.f], by omega, hp, h0, h1, fun pos hpos => ⟨pos, hpos, fun h w hI => ?_⟩⟩
    refine (read_bad h l at_ (errc true) pos n le _ w hI.toQ (by decide)).mono ?_
    rintro e w' ⟨he, hi, hk⟩
    have := IsPQ.ofQ (Nat.le_of_lt hI.lt) hi hk
    exact ⟨he, this.1, this.2, hk⟩
  | false =>
    by_cases hs : (l.length : Int) - at_ < n
    · refine ⟨0, at_, true, ?_, by omega, hp, h0, h1, fun pos hpos => ⟨at_, fun _ => rfl, fun h w hI => ?_⟩⟩
      · unfold octet_Reader_take.f
        rw [if_neg (by decide), if_pos (by omega), if_pos hs]
      · refine (read_short h l at_ pos n le _ w hI.toQ h0 h1 hs (by omega)).mono ?_
        rintro e w' ⟨he, hi, hk⟩
        have := IsPQ.ofQ (Nat.le_of_lt hI.lt) hi hk
        exact ⟨he, this.1, this.2, hk⟩
    · have hlen : ((l.drop at_.toNat).take n.toNat).length = n.toNat := by rw [List.length_take, List.length_drop]; omega
      obtain ⟨v, e1, e2, e3⟩ := both_num ((l.drop at_.toNat).take n.toNat) (fun x hx => hb x (List.mem_of_mem_drop (List.mem_of_mem_take hx))) (by omega) le
      rw [hlen] at e3
      have e4 : ((v : Nat) : Int) < ((256 ^ n.toNat : Nat) : Int) := Int.ofNat_lt.2 e3
      rw [Int.natCast_pow] at e4
      refine ⟨v, at_ + n, false, ?_, by omega, e4, by omega, by omega, fun pos hpos => ⟨pos, (fun hx => absurd hx (by decide)), fun h w hI => ?_⟩⟩
      · unfold octet_Reader_take.f
        rw [if_neg (by decide), if_pos (by omega), if_neg hs, e1, Option.bind_some]
      · refine (read_some 20 h l at_ pos n v le _ w hI.toQ h0 (by omega) hn (by omega) e2).mono ?_
        rintro e w' ⟨he, hi, hk⟩
        have := IsPQ.ofQ (Nat.le_of_lt hI.lt) hi hk
        exact ⟨he, this.1, this.2, hk⟩
theorem IsP.kept {W W' : World} {lo g : Nat} {f0 : List Int} {f1 : Int} {b2 : Bool} (h : IsP W lo g f0 f1 b2) {S : Nat → Prop} (hk : Kept W W' S) (hne : ¬ S g) (hx : ∀ x, S x → NoByte W x) : IsP W' lo g f0 f1 b2 := by
  obtain ⟨A0, c0, h1, h2, h3, h4⟩ := h
  refine ⟨A0, c0, (hk.2 g (blk_lt h1) hne).trans h1, h2, C_same h3 (fun ad e hn => ?_), h4⟩
  subst e
  obtain ⟨a, ea, v, ha⟩ := C_byte h3 hn
  exact hk.2 _ (by rw [← ea]; exact cell_lt ha) (fun e => hx _ e a ea v ha)
theorem IsPQ.kept {W W' : World} {lo g : Nat} {f0 : List Int} {f1 f2 f3 : Int} (h : IsPQ W lo g f0 f1 f2 f3) {S : Nat → Prop} (hk : Kept W W' S) (hne : ¬ S g) (hx : ∀ x, S x → NoByte W x) : IsPQ W' lo g f0 f1 f2 f3 := by
  obtain ⟨A0, c0, h1, h2, h3, h4⟩ := h
  refine ⟨A0, c0, (hk.2 g (blk_lt h1) hne).trans h1, h2, C_same h3 (fun ad e hn => ?_), h4⟩
  subst e
  obtain ⟨a, ea, v, ha⟩ := C_byte h3 hn
  exact hk.2 _ (by rw [← ea]; exact cell_lt ha) (fun e => hx _ e a ea v ha)
/-- A reader of the program and one of the reference, that stand alike. -/
def Pair (w : World) (g h : Nat) (l : List Int) (at_ pos : Int) (bad : Bool) : Prop := IsP w 0 g l at_ bad ∧ IsPQ w 0 h l at_ (errc bad) pos ∧ (bad = true → pos = at_) ∧ 0 ≤ at_ ∧ at_ ≤ l.length
theorem Pair.kept {W W' : World} {g h : Nat} {l : List Int} {at_ pos : Int} {bad : Bool} (hp : Pair W g h l at_ pos bad) {S : Nat → Prop} (hk : Kept W W' S) (hg : ¬ S g) (hh : ¬ S h) (hx : ∀ x, S x → NoByte W x) : Pair W' g h l at_ pos bad :=
  ⟨hp.1.kept hk hg hx, hp.2.1.kept hk hh hx, hp.2.2⟩
theorem Pair.below {W W' : World} {g h : Nat} {l : List Int} {at_ pos : Int} {bad : Bool} (hp : Pair W g h l at_ pos bad) (hb : Below W.heap.size W W') : Pair W' g h l at_ pos bad := ⟨hp.1.below hb, hp.2.1.below hb, hp.2.2⟩

theorem Below.alloc_ {B : Nat} {w : World} (o : Obj) (h : B ≤ w.heap.size) : Below B w (w.alloc o) := (Below.refl B w).alloc h o
theorem box_kept {w w1 : World} {o : Obj} {g : Nat} (hk : KeepBut (w.alloc o) w1 g none) (hg : g < w.heap.size) : w1.heap[w.heap.size]? = some o :=
  (hk.2 w.heap.size (blk_lt (heap_alloc_new w o)) (by omega) (by simp)).trans (heap_alloc_new w o)
theorem step_fin {w w1 w2 : World} {o : Obj} {g h : Nat} {l : List Int} {at' pos' : Int} {bad' : Bool} {b0 : Bool} {a0 e0 p0 : Int} (hne : g ≠ h) (p1 : IsP w 0 g l a0 b0) 
    (i1 : IsP w1 0 g l at' bad') (b1 : Below g (w.alloc o) w1) (k1 : KeepBut (w.alloc o) w1 g none) (i2 : IsPQ w2 0 h l at' (errc bad') pos') (b2 : Below h w1 w2) (k2 : KeepBut w1 w2 h none)
    (h2 : IsPQ w1 0 h l a0 e0 p0) (e7 : bad' = true → pos' = at') (e4 : 0 ≤ at') (e5 : at' ≤ l.length) : (∃ at' pos' bad', Pair w2 g h l at' pos' bad') ∧ Kept w w2 (fun x => x = g ∨ x = h) ∧ Below (min g h) w w2 := by
  refine ⟨⟨at', pos', bad', i1.keep k2 hne h2.nobyte, i2, e7, e4, e5⟩, ?_, ?_⟩
  · exact Kept.of_keep (Kept.of_keep (Kept.alloc (Kept.refl w _) o) k1 (.inl (.inl rfl))) k2 (.inl (.inr rfl))
  · have := p1.lt
    exact ((Below.alloc_ o (by omega)).trans (b1.mono (Nat.min_le_left _ _))).trans (b2.mono (Nat.min_le_right _ _))
set_option maxHeartbeats 4000000 in
set_option maxRecDepth 100000 in
theorem step_byte (g h : Nat) (l : List Int) (at_ pos : Int) (bad le : Bool) (w : World) (hl : l.length ≤ 140737488355328) (hb : ∀ x ∈ l, 0 ≤ x ∧ x < 256) (hne : g ≠ h) (hp : Pair w g h l at_ pos bad) :
    Calls Tryd.prog 12 #[.pointer (some ⟨g, 0, none⟩), .pointer (some ⟨h, 0, none⟩), .agg #[.int .i64 0, .bool le]] w fun e w' => e = .returned (.bool true) ∧ (∃ at' pos' bad', Pair w' g h l at' pos' bad') ∧ Kept w w' (fun x => x = g ∨ x = h) ∧ Below (min g h) w w' := by
  obtain ⟨p1, p2, p3, h0, h1⟩ := hp
  obtain ⟨v, at', bad', e1, e2, e3, e4, e5, e6⟩ := take_num l hl hb at_ bad h0 h1 1 ⟨by decide, by decide⟩ false
  obtain ⟨pos', e7, e8⟩ := e6 pos p3
  have e3' : v < 256 := e3
  have FB : octet_Reader_Byte.f l at_ bad = some (v, at', bad') := by
    unfold octet_Reader_Byte.f
    rw [e1, Option.bind_some]
    simp only [Int.emod_eq_of_lt e2 e3']
  have q1 : IntKind.u64.wrap v = v := by rw [IntKind.wrap_u64]; omega
  have q2 : (v == v) = true := beq_self_eq_true v
  clear e3'
  have E8 := Aside0.mk e8
  have P1 := Aside0.mk p1
  have P2 := Aside0.mk p2
  have E7 := Aside0.mk e7
  have RG := Aside0.mk (And.intro e4 e5)
  have HN := Aside0.mk hne
  clear e8 e1 p1 p2 p3 e3 e6 e7 e4 e5 h0 h1 hl hb hne
  have hu31 := Tryd.underlying31
  go_enter Tryd.func12, Tryd.ntmps12
  go_wp2_with fail
  refine (byte_P g l at_ bad v at' bad' _ (P1.out.below (below_alloc (Below.refl _ _) _)) FB).mono ?_
  rintro e w1 ⟨rfl, i1, b1, k1⟩
  have I1 := Aside0.mk i1
  have B1 := Aside0.mk b1
  have K1 := Aside0.mk k1
  have P2' := Aside0.mk ((P2.out.below (below_alloc (Below.refl _ _) _)).keep k1 (Ne.symm HN.out) (P1.out.below (below_alloc (Below.refl _ _) _)).nobyte)
  clear i1 b1 k1
  go_wp2_with fail
  refine (E8.out h w1 P2'.out).mono ?_
  rintro e w2 ⟨rfl, i2, b2, k2⟩
  have FIN := Aside0.mk (step_fin HN.out P1.out I1.out B1.out K1.out i2 b2 k2 P2'.out E7.out RG.out.1 RG.out.2)
  clear i2 b2 k2
  go_wp2_with fail
  go_ret
  exact ⟨rfl, FIN.out⟩
set_option maxHeartbeats 4000000 in
set_option maxRecDepth 100000 in
theorem step_half (g h : Nat) (l : List Int) (at_ pos : Int) (bad le : Bool) (w : World) (hl : l.length ≤ 140737488355328) (hb : ∀ x ∈ l, 0 ≤ x ∧ x < 256) (hne : g ≠ h) (hp : Pair w g h l at_ pos bad) :
    Calls Tryd.prog 12 #[.pointer (some ⟨g, 0, none⟩), .pointer (some ⟨h, 0, none⟩), .agg #[.int .i64 1, .bool le]] w fun e w' => e = .returned (.bool true) ∧ (∃ at' pos' bad', Pair w' g h l at' pos' bad') ∧ Kept w w' (fun x => x = g ∨ x = h) ∧ Below (min g h) w w' := by
  obtain ⟨p1, p2, p3, h0, h1⟩ := hp
  obtain ⟨v, at', bad', e1, e2, e3, e4, e5, e6⟩ := take_num l hl hb at_ bad h0 h1 4 ⟨by decide, by decide⟩ le
  obtain ⟨pos', e7, e8⟩ := e6 pos p3
  have e3' : v < 4294967296 := e3
  have FB : octet_Reader_Word32.f l at_ bad le = some (v, at', bad') := by
    unfold octet_Reader_Word32.f
    rw [e1, Option.bind_some]
    simp only [Int.emod_eq_of_lt e2 e3']
  have q1 : IntKind.u64.wrap v = v := by rw [IntKind.wrap_u64]; omega
  have q2 : (v == v) = true := beq_self_eq_true v
  clear e3'
  have E8 := Aside0.mk e8
  have P1 := Aside0.mk p1
  have P2 := Aside0.mk p2
  have E7 := Aside0.mk e7
  have RG := Aside0.mk (And.intro e4 e5)
  have HN := Aside0.mk hne
  clear e8 e1 p1 p2 p3 e3 e6 e7 e4 e5 h0 h1 hl hb hne
  have hu31 := Tryd.underlying31
  go_enter Tryd.func12, Tryd.ntmps12
  go_wp2_with fail
  refine (word32_P g l at_ bad le v at' bad' _ (P1.out.below (below_alloc (Below.refl _ _) _)) FB).mono ?_
  rintro e w1 ⟨rfl, i1, b1, k1⟩
  have I1 := Aside0.mk i1
  have B1 := Aside0.mk b1
  have K1 := Aside0.mk k1
  have P2' := Aside0.mk ((P2.out.below (below_alloc (Below.refl _ _) _)).keep k1 (Ne.symm HN.out) (P1.out.below (below_alloc (Below.refl _ _) _)).nobyte)
  have hbx : w1.heap[w.heap.size]? = some (.cells #[.int .i64 1, .bool le] 31 (0, 0)) := by
    exact box_kept k1 P1.out.lt
  have hc1 : w1.cell? ⟨w.heap.size, 1, none⟩ = some (.bool le) := (blk_cell hbx 1).trans rfl
  clear hbx
  clear i1 b1 k1
  go_wp2_with fail
  refine (E8.out h w1 P2'.out).mono ?_
  rintro e w2 ⟨rfl, i2, b2, k2⟩
  have FIN := Aside0.mk (step_fin HN.out P1.out I1.out B1.out K1.out i2 b2 k2 P2'.out E7.out RG.out.1 RG.out.2)
  clear i2 b2 k2
  go_wp2_with fail
  go_ret
  exact ⟨rfl, FIN.out⟩
set_option maxHeartbeats 4000000 in
set_option maxRecDepth 100000 in
theorem step_whole (g h : Nat) (l : List Int) (at_ pos : Int) (bad le : Bool) (w : World) (hl : l.length ≤ 140737488355328) (hb : ∀ x ∈ l, 0 ≤ x ∧ x < 256) (hne : g ≠ h) (hp : Pair w g h l at_ pos bad) :
    Calls Tryd.prog 12 #[.pointer (some ⟨g, 0, none⟩), .pointer (some ⟨h, 0, none⟩), .agg #[.int .i64 2, .bool le]] w fun e w' => e = .returned (.bool true) ∧ (∃ at' pos' bad', Pair w' g h l at' pos' bad') ∧ Kept w w' (fun x => x = g ∨ x = h) ∧ Below (min g h) w w' := by
  obtain ⟨p1, p2, p3, h0, h1⟩ := hp
  obtain ⟨v, at', bad', e1, e2, e3, e4, e5, e6⟩ := take_num l hl hb at_ bad h0 h1 8 ⟨by decide, by decide⟩ le
  obtain ⟨pos', e7, e8⟩ := e6 pos p3
  have e3' : v < 18446744073709551616 := e3
  have FB : octet_Reader_Word64.f l at_ bad le = some (v, at', bad') := by
    unfold octet_Reader_Word64.f
    rw [e1, Option.bind_some]
  have q1 : IntKind.u64.wrap v = v := by rw [IntKind.wrap_u64]; omega
  have q2 : (v == v) = true := beq_self_eq_true v
  clear e3'
  have E8 := Aside0.mk e8
  have P1 := Aside0.mk p1
  have P2 := Aside0.mk p2
  have E7 := Aside0.mk e7
  have RG := Aside0.mk (And.intro e4 e5)
  have HN := Aside0.mk hne
  clear e8 e1 p1 p2 p3 e3 e6 e7 e4 e5 h0 h1 hl hb hne
  have hu31 := Tryd.underlying31
  go_enter Tryd.func12, Tryd.ntmps12
  go_wp2_with fail
  refine (word64_P g l at_ bad le v at' bad' _ (P1.out.below (below_alloc (Below.refl _ _) _)) FB).mono ?_
  rintro e w1 ⟨rfl, i1, b1, k1⟩
  have I1 := Aside0.mk i1
  have B1 := Aside0.mk b1
  have K1 := Aside0.mk k1
  have P2' := Aside0.mk ((P2.out.below (below_alloc (Below.refl _ _) _)).keep k1 (Ne.symm HN.out) (P1.out.below (below_alloc (Below.refl _ _) _)).nobyte)
  have hbx : w1.heap[w.heap.size]? = some (.cells #[.int .i64 2, .bool le] 31 (0, 0)) := by
    exact box_kept k1 P1.out.lt
  have hc1 : w1.cell? ⟨w.heap.size, 1, none⟩ = some (.bool le) := (blk_cell hbx 1).trans rfl
  clear hbx
  clear i1 b1 k1
  go_wp2_with fail
  refine (E8.out h w1 P2'.out).mono ?_
  rintro e w2 ⟨rfl, i2, b2, k2⟩
  have FIN := Aside0.mk (step_fin HN.out P1.out I1.out B1.out K1.out i2 b2 k2 P2'.out E7.out RG.out.1 RG.out.2)
  clear i2 b2 k2
  go_wp2_with fail
  go_ret
  exact ⟨rfl, FIN.out⟩
set_option maxHeartbeats 4000000 in
set_option maxRecDepth 100000 in
theorem step_none (g h : Nat) (k : Int) (le : Bool) (w : World) (h0 : k ≠ 0) (h1 : k ≠ 1) (h2 : k ≠ 2) :
    Calls Tryd.prog 12 #[.pointer (some ⟨g, 0, none⟩), .pointer (some ⟨h, 0, none⟩), .agg #[.int .i64 k, .bool le]] w fun e w' => e = .returned (.bool true) ∧ ∃ o, w' = w.alloc o := by
  have q0 : (k == 0) = false := beq_eq_false_iff_ne.mpr h0
  have q1 : (k == 1) = false := beq_eq_false_iff_ne.mpr h1
  have q2 : (k == 2) = false := beq_eq_false_iff_ne.mpr h2
  have hu31 := Tryd.underlying31
  go_enter Tryd.func12, Tryd.ntmps12
  go_wp2_with fail
  go_ret
  exact ⟨rfl, _, rfl⟩
theorem step_any (g h : Nat) (l : List Int) (at_ pos : Int) (bad le : Bool) (k : Int) (w : World) (hl : l.length ≤ 140737488355328) (hb : ∀ x ∈ l, 0 ≤ x ∧ x < 256) (hne : g ≠ h) (hp : Pair w g h l at_ pos bad) :
    Calls Tryd.prog 12 #[.pointer (some ⟨g, 0, none⟩), .pointer (some ⟨h, 0, none⟩), .agg #[.int .i64 k, .bool le]] w fun e w' => e = .returned (.bool true) ∧ (∃ at' pos' bad', Pair w' g h l at' pos' bad') ∧ Kept w w' (fun x => x = g ∨ x = h) ∧ Below (min g h) w w' := by
  by_cases c0 : k = 0
  · subst c0; exact step_byte g h l at_ pos bad le w hl hb hne hp
  by_cases c1 : k = 1
  · subst c1; exact step_half g h l at_ pos bad le w hl hb hne hp
  by_cases c2 : k = 2
  · subst c2; exact step_whole g h l at_ pos bad le w hl hb hne hp
  refine (step_none g h k le w c0 c1 c2).mono ?_
  rintro e w' ⟨he, o, rfl⟩
  have := hp.1.lt
  exact ⟨he, ⟨at_, pos, bad, hp.below (below_alloc (Below.refl _ _) o)⟩, Kept.alloc (Kept.refl w _) o, Below.alloc_ o (by omega)⟩
end Go.Proofs.YtenomaibgpbonaaDoor.Pure
