/- The two readers' states as they stand in memory, and what keeps them. No conditions. -/
import Derived.Test.YtenomaibgpbonaaDoorPOctetReadsn
namespace Go.Proofs.YtenomaibgpbonaaDoor.Pure
open Go.RowKit Go.Proofs.YtenomaibgpbonaaDoorW.PrintWords Go.Proofs.YtenomaibgpbonaaDoorW.PrintLast Go.Proofs.YtenomaibgpbonaaDoorW.PrintMore Go.Proofs.YtenomaibgpbonaaDoor.POctetReads Go.Proofs.YtenomaibgpbonaaDoor.Math
/-- The world without the blocks from g on. -/
def trunc (w : World) (g : Nat) : World := { w with heap := w.heap.extract 0 g }
theorem trunc_size {w : World} {g : Nat} (h : g ≤ w.heap.size) : (trunc w g).heap.size = g := by
  show (w.heap.extract 0 g).size = g
  rw [Array.size_extract]; omega
theorem trunc_get {w : World} {g k : Nat} (hk : k < g) : (trunc w g).heap[k]? = w.heap[k]? := by
  show (w.heap.extract 0 g)[k]? = _
  rw [Array.getElem?_extract]
  by_cases h : k < w.heap.size
  · rw [if_pos (by omega)]; simp
  · rw [if_neg (by omega)]; exact (Array.getElem?_eq_none (by omega)).symm
theorem trunc_below {w : World} {g : Nat} (h : g ≤ w.heap.size) : Below (trunc w g).heap.size (trunc w g) w :=
  ⟨rfl, rfl, rfl, by rw [trunc_size h]; exact h, fun k hk => (trunc_get (by rw [trunc_size h] at hk; exact hk)).symm⟩
theorem below_trunc {w w' : World} {g : Nat} (h : g ≤ w.heap.size) (hs : w.heap.size ≤ w'.heap.size) (hb : Below (trunc w g).heap.size (trunc w g) w') : Below g w w' :=
  ⟨hb.os, hb.tape, hb.output, hs, fun k hk => (hb.block k (by rw [trunc_size h]; exact hk)).trans (trunc_get hk)⟩
theorem C_same {w w' : World} {A : Option Addr} {n : Nat} {xs : List Int} (h : Kd.C (Kd.int .u8) w A n xs) (hs : ∀ ad, A = some ad → 0 < n → w'.heap[ad.block]? = w.heap[ad.block]?) : Kd.C (Kd.int .u8) w' A n xs := by
  obtain ⟨h1, h2, h3⟩ := h
  refine ⟨h1, h2, fun hn => ?_⟩
  obtain ⟨ad, e, hc⟩ := h3 hn
  refine ⟨ad, e, fun j p hj => ?_⟩
  obtain ⟨c, a1, a2, a3⟩ := hc j p hj
  refine ⟨c, a1, a2, fun i u hu => ?_⟩
  have := a3 i u hu
  unfold World.cell? at this ⊢
  have eb : (ad.add (j * (Kd.int .u8).sz + i)).block = ad.block := by unfold Addr.add; split <;> rfl
  rw [eb] at this ⊢
  rw [hs ad e hn]
  exact this
theorem C_byte {w : World} {ad : Addr} {n : Nat} {xs : List Int} (h : Kd.C (Kd.int .u8) w (some ad) n xs) (hn : 0 < n) : ∃ a : Addr, a.block = ad.block ∧ ∃ v, w.cell? a = some (.int .u8 v) := by
  obtain ⟨ad', e, hc⟩ := Kd.at_int h 0 (by omega) (by omega)
  obtain rfl := Option.some.inj e
  exact ⟨_, by unfold Addr.add; split <;> rfl, _, hc⟩
theorem cell_lt {w : World} {a : Addr} {v : Value} (h : w.cell? a = some v) : a.block < w.heap.size := by
  unfold World.cell? at h
  by_cases hb : a.block < w.heap.size
  · exact hb
  · rw [Array.getElem?_eq_none (by omega)] at h; simp at h
/-- Block x holds no byte. -/
def NoByte (w : World) (x : Nat) : Prop := ∀ a : Addr, a.block = x → ∀ v, w.cell? a ≠ some (.int .u8 v)
theorem nobyte_of {w : World} {x t : Nat} {cs : Array Value} (h : w.heap[x]? = some (.cells cs t (0, 0))) (hc : ∀ (i : Nat) (v : Int), cs[i]? ≠ some (Value.int .u8 v)) : NoByte w x := by
  intro a ha v hv
  unfold World.cell? at hv
  rw [ha, h] at hv
  simp only at hv
  split at hv
  · cases hv
  · exact hc _ _ hv
/-- The reader's state, its bytes told in the world as it stands. -/
def IsP (W : World) (lo g : Nat) (f0 : List Int) (f1 : Int) (f2 : Bool) : Prop := ∃ A0 c0, W.heap[g]? = some (.cells #[.slice A0 f0.length c0, .int .i64 f1, .bool f2] 63 (0, 0)) ∧ f0.length ≤ c0 ∧ Kd.C (Kd.int .u8) W A0 f0.length f0 ∧ (∀ ad, A0 = some ad → 0 < f0.length → lo ≤ ad.block ∧ ad.block < g)
def IsPQ (W : World) (lo g : Nat) (f0 : List Int) (f1 f2 f3 : Int) : Prop := ∃ A0 c0, W.heap[g]? = some (.cells #[.slice A0 f0.length c0, .int .i64 f1, .int .i64 f2, .int .i64 f3] 35 (0, 0)) ∧ f0.length ≤ c0 ∧ Kd.C (Kd.int .u8) W A0 f0.length f0 ∧ (∀ ad, A0 = some ad → 0 < f0.length → lo ≤ ad.block ∧ ad.block < g)
section
variable {W W' : World} {lo g : Nat} {f0 : List Int} {f1 f2 f3 : Int} {b2 : Bool}
theorem IsP.nobyte (h : IsP W lo g f0 f1 b2) : NoByte W g := by
  obtain ⟨A0, c0, h1, _⟩ := h
  refine nobyte_of h1 fun i v => ?_
  match i with
  | 0 => simp
  | 1 => simp
  | 2 => simp
  | n + 3 => simp
theorem IsPQ.nobyte (h : IsPQ W lo g f0 f1 f2 f3) : NoByte W g := by
  obtain ⟨A0, c0, h1, _⟩ := h
  refine nobyte_of h1 fun i v => ?_
  match i with
  | 0 => simp
  | 1 => simp
  | 2 => simp
  | 3 => simp
  | n + 4 => simp
theorem IsP.lt (h : IsP W lo g f0 f1 b2) : g < W.heap.size := by obtain ⟨A0, c0, h1, _⟩ := h; exact blk_lt h1
theorem IsPQ.lt (h : IsPQ W lo g f0 f1 f2 f3) : g < W.heap.size := by obtain ⟨A0, c0, h1, _⟩ := h; exact blk_lt h1
theorem IsP.zero (h : IsP W lo g f0 f1 b2) : IsP W 0 g f0 f1 b2 := by
  obtain ⟨A0, c0, h1, h2, h3, h4⟩ := h
  exact ⟨A0, c0, h1, h2, h3, fun ad e hn => ⟨Nat.zero_le _, (h4 ad e hn).2⟩⟩
theorem IsPQ.zero (h : IsPQ W lo g f0 f1 f2 f3) : IsPQ W 0 g f0 f1 f2 f3 := by
  obtain ⟨A0, c0, h1, h2, h3, h4⟩ := h
  exact ⟨A0, c0, h1, h2, h3, fun ad e hn => ⟨Nat.zero_le _, (h4 ad e hn).2⟩⟩
/-- What stands from lo to g is as it was. -/
theorem IsP.same (h : IsP W lo g f0 f1 b2) (hl : lo ≤ g) (hs : ∀ k, lo ≤ k → k ≤ g → W'.heap[k]? = W.heap[k]?) : IsP W' lo g f0 f1 b2 := by
  obtain ⟨A0, c0, h1, h2, h3, h4⟩ := h
  exact ⟨A0, c0, (hs g hl (Nat.le_refl _)).trans h1, h2, C_same h3 (fun ad e hn => hs _ (h4 ad e hn).1 (Nat.le_of_lt (h4 ad e hn).2)), h4⟩
theorem IsPQ.same (h : IsPQ W lo g f0 f1 f2 f3) (hl : lo ≤ g) (hs : ∀ k, lo ≤ k → k ≤ g → W'.heap[k]? = W.heap[k]?) : IsPQ W' lo g f0 f1 f2 f3 := by
  obtain ⟨A0, c0, h1, h2, h3, h4⟩ := h
  exact ⟨A0, c0, (hs g hl (Nat.le_refl _)).trans h1, h2, C_same h3 (fun ad e hn => hs _ (h4 ad e hn).1 (Nat.le_of_lt (h4 ad e hn).2)), h4⟩
theorem IsP.keep (h : IsP W lo g f0 f1 b2) {x : Nat} (hk : KeepBut W W' x none) (hne : g ≠ x) (hx : NoByte W x) : IsP W' lo g f0 f1 b2 := by
  obtain ⟨A0, c0, h1, h2, h3, h4⟩ := h
  refine ⟨A0, c0, hk.blk h1 hne (by simp), h2, C_same h3 (fun ad e hn => ?_), h4⟩
  subst e
  obtain ⟨a, ea, v, ha⟩ := C_byte h3 hn
  exact hk.2 _ (by rw [← ea]; exact cell_lt ha) (fun e => hx a (ea.trans e) v ha) (by simp)
theorem IsPQ.keep (h : IsPQ W lo g f0 f1 f2 f3) {x : Nat} (hk : KeepBut W W' x none) (hne : g ≠ x) (hx : NoByte W x) : IsPQ W' lo g f0 f1 f2 f3 := by
  obtain ⟨A0, c0, h1, h2, h3, h4⟩ := h
  refine ⟨A0, c0, hk.blk h1 hne (by simp), h2, C_same h3 (fun ad e hn => ?_), h4⟩
  subst e
  obtain ⟨a, ea, v, ha⟩ := C_byte h3 hn
  exact hk.2 _ (by rw [← ea]; exact cell_lt ha) (fun e => hx a (ea.trans e) v ha) (by simp)
theorem IsP.below (h : IsP W lo g f0 f1 b2) (hb : Below W.heap.size W W') : IsP W' lo g f0 f1 b2 :=
  h.keep (KeepBut.of_below hb W.heap.size none) (Nat.ne_of_lt h.lt) (fun a ha v hv => by have := cell_lt hv; omega)
theorem IsPQ.below (h : IsPQ W lo g f0 f1 f2 f3) (hb : Below W.heap.size W W') : IsPQ W' lo g f0 f1 f2 f3 :=
  h.keep (KeepBut.of_below hb W.heap.size none) (Nat.ne_of_lt h.lt) (fun a ha v hv => by have := cell_lt hv; omega)
theorem IsP.drewN (h : IsP W lo g f0 f1 b2) (n : Nat) : IsP (W.drewN n) lo g f0 f1 b2 := h.below (pw_below_drewN (Below.refl _ _) n)
theorem IsPQ.drewN (h : IsPQ W lo g f0 f1 f2 f3) (n : Nat) : IsPQ (W.drewN n) lo g f0 f1 f2 f3 := h.below (pw_below_drewN (Below.refl _ _) n)
theorem IsP.toS (h : IsP W lo g f0 f1 b2) : IsS63 (trunc W g) W g f0 f1 b2 ∧ Below (trunc W g).heap.size (trunc W g) W := by
  have hl := h.lt
  obtain ⟨A0, c0, h1, h2, h3, h4⟩ := h
  exact ⟨⟨A0, c0, h1, by rw [trunc_size (by omega)]; exact Nat.le_refl _, C_same h3 (fun ad e hn => trunc_get (h4 ad e hn).2), h2⟩, trunc_below (by omega)⟩
theorem IsP.ofS {f1' : Int} {b2' : Bool} (hl : g ≤ W.heap.size) (h : IsS63 (trunc W g) W' g f0 f1' b2') (hb : Below (trunc W g).heap.size (trunc W g) W') (hk : KeepBut W W' g none) : IsP W' 0 g f0 f1' b2' ∧ Below g W W' := by
  obtain ⟨A0, c0, h1, h2, h3, h4⟩ := h
  refine ⟨⟨A0, c0, h1, h4, Kd.C_below h3 hb, fun ad e hn => ⟨Nat.zero_le _, ?_⟩⟩, below_trunc hl hk.1 hb⟩
  subst e
  obtain ⟨a, ea, v, ha⟩ := C_byte h3 hn
  have := cell_lt ha
  rw [trunc_size hl, ea] at this
  exact this
theorem IsPQ.toQ (h : IsPQ W lo g f0 f1 f2 f3) : IsQ (trunc W g) W g f0 f1 f2 f3 := by
  have hl := h.lt
  obtain ⟨A0, c0, h1, h2, h3, h4⟩ := h
  exact ⟨trunc W g, A0, c0, Below.refl _ _, trunc_below (by omega), by rw [trunc_size (by omega)]; exact Nat.le_refl _, h1, C_same h3 (fun ad e hn => trunc_get (h4 ad e hn).2), h2⟩
theorem IsPQ.ofQ {f1' f2' f3' : Int} (hl : g ≤ W.heap.size) (h : IsQ (trunc W g) W' g f0 f1' f2' f3') (hk : KeepBut W W' g none) : IsPQ W' 0 g f0 f1' f2' f3' ∧ Below g W W' := by
  obtain ⟨w1, A0, c0, b1, b2, hg, h1, h3, h4⟩ := h
  refine ⟨⟨A0, c0, h1, h4, Kd.C_below h3 b2, fun ad e hn => ⟨Nat.zero_le _, ?_⟩⟩, below_trunc hl hk.1 (below_then b1 b1.size b2)⟩
  subst e
  obtain ⟨a, ea, v, ha⟩ := C_byte h3 hn
  have := cell_lt ha
  rw [ea] at this
  omega
end
/-! ### the methods over IsP -/
theorem byte_P (g : Nat) (f0 : List Int) (f1 : Int) (f2 : Bool) (r1 r2 : Int) (r3 : Bool) (w : World) (hI : IsP w 0 g f0 f1 f2) (h : octet_Reader_Byte.f f0 f1 f2 = some (r1, r2, r3)) :
    Calls Tryd.prog 17 #[.pointer (some ⟨g, 0, none⟩)] w fun e w' => e = .returned (.int .u8 r1) ∧ IsP w' 0 g f0 r2 r3 ∧ Below g w w' ∧ KeepBut w w' g none := by
  refine (octet_Reader_Byte.calls g f0 f1 f2 r1 r2 r3 _ w hI.toS.1 hI.toS.2 h).mono ?_
  rintro e w' ⟨he, hi, hb, hk⟩
  have := IsP.ofS (Nat.le_of_lt hI.lt) hi hb hk
  exact ⟨he, this.1, this.2, hk⟩
theorem word32_P (g : Nat) (f0 : List Int) (f1 : Int) (f2 : Bool) (a1 : Bool) (r1 r2 : Int) (r3 : Bool) (w : World) (hI : IsP w 0 g f0 f1 f2) (h : octet_Reader_Word32.f f0 f1 f2 a1 = some (r1, r2, r3)) :
    Calls Tryd.prog 19 #[.pointer (some ⟨g, 0, none⟩), .bool a1] w fun e w' => e = .returned (.int .u32 r1) ∧ IsP w' 0 g f0 r2 r3 ∧ Below g w w' ∧ KeepBut w w' g none := by
  refine (octet_Reader_Word32.calls g f0 f1 f2 a1 r1 r2 r3 _ w hI.toS.1 hI.toS.2 h).mono ?_
  rintro e w' ⟨he, hi, hb, hk⟩
  have := IsP.ofS (Nat.le_of_lt hI.lt) hi hb hk
  exact ⟨he, this.1, this.2, hk⟩
theorem word64_P (g : Nat) (f0 : List Int) (f1 : Int) (f2 : Bool) (a1 : Bool) (r1 r2 : Int) (r3 : Bool) (w : World) (hI : IsP w 0 g f0 f1 f2) (h : octet_Reader_Word64.f f0 f1 f2 a1 = some (r1, r2, r3)) :
    Calls Tryd.prog 20 #[.pointer (some ⟨g, 0, none⟩), .bool a1] w fun e w' => e = .returned (.int .u64 r1) ∧ IsP w' 0 g f0 r2 r3 ∧ Below g w w' ∧ KeepBut w w' g none := by
  refine (octet_Reader_Word64.calls g f0 f1 f2 a1 r1 r2 r3 _ w hI.toS.1 hI.toS.2 h).mono ?_
  rintro e w' ⟨he, hi, hb, hk⟩
  have := IsP.ofS (Nat.le_of_lt hI.lt) hi hb hk
  exact ⟨he, this.1, this.2, hk⟩
theorem at_P (g : Nat) (f0 : List Int) (f1 : Int) (f2 : Bool) (w : World) (hI : IsP w 0 g f0 f1 f2) :
    Calls Tryd.prog 13 #[.pointer (some ⟨g, 0, none⟩)] w fun e w' => e = .returned (.int .i64 f1) ∧ IsP w' 0 g f0 f1 f2 ∧ Below g w w' ∧ KeepBut w w' g none := by
  refine (octet_Reader_At.calls g f0 f1 f2 f1 f1 f2 _ w hI.toS.1 hI.toS.2 rfl).mono ?_
  rintro e w' ⟨he, hi, hb, hk⟩
  have := IsP.ofS (Nat.le_of_lt hI.lt) hi hb hk
  exact ⟨he, this.1, this.2, hk⟩
theorem left_P (g : Nat) (f0 : List Int) (f1 : Int) (f2 : Bool) (w : World) (hI : IsP w 0 g f0 f1 f2) :
    Calls Tryd.prog 14 #[.pointer (some ⟨g, 0, none⟩)] w fun e w' => e = .returned (.int .i64 (wrap64 ((f0.length : Int) - f1))) ∧ IsP w' 0 g f0 f1 f2 ∧ Below g w w' ∧ KeepBut w w' g none := by
  refine (octet_Reader_Left.calls g f0 f1 f2 _ f1 f2 _ w hI.toS.1 hI.toS.2 rfl).mono ?_
  rintro e w' ⟨he, hi, hb, hk⟩
  have := IsP.ofS (Nat.le_of_lt hI.lt) hi hb hk
  exact ⟨he, this.1, this.2, hk⟩
theorem err_P (g : Nat) (f0 : List Int) (f1 : Int) (f2 : Bool) (w : World) (hI : IsP w 0 g f0 f1 f2) :
    Calls Tryd.prog 16 #[.pointer (some ⟨g, 0, none⟩)] w fun e w' => ∃ ev_ : Value, e = .returned ev_ ∧ EV w' ev_ (if f2 = true then some (f1 * 1024 + 160) else none) ∧ IsP w' 0 g f0 f1 f2 ∧ Below g w w' ∧ KeepBut w w' g none := by
  have h : octet_Reader_Err.f f0 f1 f2 = some (if f2 = true then some (f1 * 1024 + 160) else none, f1, f2) := by
    cases f2 <;> simp [octet_Reader_Err.f, api_Wrap.f]
  refine (octet_Reader_Err.calls g f0 f1 f2 _ _ _ _ w hI.toS.1 hI.toS.2 h).mono ?_
  rintro e w' ⟨ev, he, hv, hi, hb, hk⟩
  have := IsP.ofS (Nat.le_of_lt hI.lt) hi hb hk
  exact ⟨ev, he, hv, this.1, this.2, hk⟩
end Go.Proofs.YtenomaibgpbonaaDoor.Pure
