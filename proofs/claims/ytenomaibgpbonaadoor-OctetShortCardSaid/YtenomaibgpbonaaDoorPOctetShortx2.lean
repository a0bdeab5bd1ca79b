/- Go functions as Lean functions and their contracts: each call comes to what the Lean function says; or a law's row out of them. No conditions. Written by this session's wip/hprint.py (the kit's print with contracts and repairs of my own). -/
import Derived.Test.YtenomaibgpbonaaDoorPOctetShortx0
import Derived.Test.YtenomaibgpbonaaDoorPOctetShortx1
namespace Go.Proofs.YtenomaibgpbonaaDoor.POctetShort
open Go.RowKit Go.Proofs.YtenomaibgpbonaaDoorW.PrintWords Go.Proofs.YtenomaibgpbonaaDoorW.PrintLast Go.Proofs.YtenomaibgpbonaaDoorW.PrintMore
attribute [local go_sem] max2_int min2_int max_two min_two max_three min_three max_four min_four   -- for this text's walks alone
set_option linter.unusedVariables false
set_option linter.unusedSimpArgs false

/-! ### the methods' contracts over a reader of the law's own -/
theorem octet_Reader_At.callsR (g : Nat) (s0_0 : List Int) (s0_1 : Int) (s0_2 : Bool) (r1 : Int) (r2 : Int) (r3 : Bool) (w0 w : World) (hI : IsR w0 w g s0_0 s0_1 s0_2) (hB : Below w0.heap.size w0 w) (h : octet_Reader_At.f s0_0 s0_1 s0_2 = some (r1, r2, r3)) :
    Calls Tryd.prog 13 #[.pointer (some ⟨g, 0, none⟩)] w fun e w' => e = .returned (.int .i64 r1) ∧ IsR w0 w' g s0_0 r2 r3 ∧ Below w0.heap.size w0 w' ∧ KeepBut w w' g none := by
  obtain ⟨w1, h1, h2, h3⟩ := hI
  refine (octet_Reader_At.calls g s0_0 s0_1 s0_2 r1 r2 r3 w1 w h3 h2 h).mono ?_
  rintro e w' ⟨he, hi, hb, hk⟩
  exact ⟨he, ⟨w1, h1, hb, hi⟩, below_then h1 h1.size hb, hk⟩
theorem octet_Reader_Left.callsR (g : Nat) (s0_0 : List Int) (s0_1 : Int) (s0_2 : Bool) (r1 : Int) (r2 : Int) (r3 : Bool) (w0 w : World) (hI : IsR w0 w g s0_0 s0_1 s0_2) (hB : Below w0.heap.size w0 w) (h : octet_Reader_Left.f s0_0 s0_1 s0_2 = some (r1, r2, r3)) :
    Calls Tryd.prog 14 #[.pointer (some ⟨g, 0, none⟩)] w fun e w' => e = .returned (.int .i64 r1) ∧ IsR w0 w' g s0_0 r2 r3 ∧ Below w0.heap.size w0 w' ∧ KeepBut w w' g none := by
  obtain ⟨w1, h1, h2, h3⟩ := hI
  refine (octet_Reader_Left.calls g s0_0 s0_1 s0_2 r1 r2 r3 w1 w h3 h2 h).mono ?_
  rintro e w' ⟨he, hi, hb, hk⟩
  exact ⟨he, ⟨w1, h1, hb, hi⟩, below_then h1 h1.size hb, hk⟩
theorem octet_Reader_Err.callsR (g : Nat) (s0_0 : List Int) (s0_1 : Int) (s0_2 : Bool) (r1 : Option Int) (r2 : Int) (r3 : Bool) (w0 w : World) (hI : IsR w0 w g s0_0 s0_1 s0_2) (hB : Below w0.heap.size w0 w) (h : octet_Reader_Err.f s0_0 s0_1 s0_2 = some (r1, r2, r3)) :
    Calls Tryd.prog 16 #[.pointer (some ⟨g, 0, none⟩)] w fun e w' => ∃ ev_ : Value, e = .returned ev_ ∧ EV w' ev_ r1 ∧ IsR w0 w' g s0_0 r2 r3 ∧ Below w0.heap.size w0 w' ∧ KeepBut w w' g none := by
  obtain ⟨w1, h1, h2, h3⟩ := hI
  refine (octet_Reader_Err.calls g s0_0 s0_1 s0_2 r1 r2 r3 w1 w h3 h2 h).mono ?_
  rintro e w' ⟨ev, he, hv, hi, hb, hk⟩
  exact ⟨ev, he, hv, ⟨w1, h1, hb, hi⟩, below_then h1 h1.size hb, hk⟩
theorem octet_Reader_take.callsR (g : Nat) (s0_0 : List Int) (s0_1 : Int) (s0_2 : Bool) (a1 : Int) (a2 : Bool) (r1 : Int) (r2 : Int) (r3 : Bool) (w0 w : World) (hI : IsR w0 w g s0_0 s0_1 s0_2) (hB : Below w0.heap.size w0 w) (h : octet_Reader_take.f s0_0 s0_1 s0_2 a1 a2 = some (r1, r2, r3)) :
    Calls Tryd.prog 33 #[.pointer (some ⟨g, 0, none⟩), .int .i64 a1, .bool a2] w fun e w' => e = .returned (.int .u64 r1) ∧ IsR w0 w' g s0_0 r2 r3 ∧ Below w0.heap.size w0 w' ∧ KeepBut w w' g none := by
  obtain ⟨w1, h1, h2, h3⟩ := hI
  refine (octet_Reader_take.calls g s0_0 s0_1 s0_2 a1 a2 r1 r2 r3 w1 w h3 h2 h).mono ?_
  rintro e w' ⟨he, hi, hb, hk⟩
  exact ⟨he, ⟨w1, h1, hb, hi⟩, below_then h1 h1.size hb, hk⟩
theorem octet_Reader_Byte.callsR (g : Nat) (s0_0 : List Int) (s0_1 : Int) (s0_2 : Bool) (r1 : Int) (r2 : Int) (r3 : Bool) (w0 w : World) (hI : IsR w0 w g s0_0 s0_1 s0_2) (hB : Below w0.heap.size w0 w) (h : octet_Reader_Byte.f s0_0 s0_1 s0_2 = some (r1, r2, r3)) :
    Calls Tryd.prog 17 #[.pointer (some ⟨g, 0, none⟩)] w fun e w' => e = .returned (.int .u8 r1) ∧ IsR w0 w' g s0_0 r2 r3 ∧ Below w0.heap.size w0 w' ∧ KeepBut w w' g none := by
  obtain ⟨w1, h1, h2, h3⟩ := hI
  refine (octet_Reader_Byte.calls g s0_0 s0_1 s0_2 r1 r2 r3 w1 w h3 h2 h).mono ?_
  rintro e w' ⟨he, hi, hb, hk⟩
  exact ⟨he, ⟨w1, h1, hb, hi⟩, below_then h1 h1.size hb, hk⟩
theorem octet_Reader_Word32.callsR (g : Nat) (s0_0 : List Int) (s0_1 : Int) (s0_2 : Bool) (a1 : Bool) (r1 : Int) (r2 : Int) (r3 : Bool) (w0 w : World) (hI : IsR w0 w g s0_0 s0_1 s0_2) (hB : Below w0.heap.size w0 w) (h : octet_Reader_Word32.f s0_0 s0_1 s0_2 a1 = some (r1, r2, r3)) :
    Calls Tryd.prog 19 #[.pointer (some ⟨g, 0, none⟩), .bool a1] w fun e w' => e = .returned (.int .u32 r1) ∧ IsR w0 w' g s0_0 r2 r3 ∧ Below w0.heap.size w0 w' ∧ KeepBut w w' g none := by
  obtain ⟨w1, h1, h2, h3⟩ := hI
  refine (octet_Reader_Word32.calls g s0_0 s0_1 s0_2 a1 r1 r2 r3 w1 w h3 h2 h).mono ?_
  rintro e w' ⟨he, hi, hb, hk⟩
  exact ⟨he, ⟨w1, h1, hb, hi⟩, below_then h1 h1.size hb, hk⟩
theorem octet_Reader_Word64.callsR (g : Nat) (s0_0 : List Int) (s0_1 : Int) (s0_2 : Bool) (a1 : Bool) (r1 : Int) (r2 : Int) (r3 : Bool) (w0 w : World) (hI : IsR w0 w g s0_0 s0_1 s0_2) (hB : Below w0.heap.size w0 w) (h : octet_Reader_Word64.f s0_0 s0_1 s0_2 a1 = some (r1, r2, r3)) :
    Calls Tryd.prog 20 #[.pointer (some ⟨g, 0, none⟩), .bool a1] w fun e w' => e = .returned (.int .u64 r1) ∧ IsR w0 w' g s0_0 r2 r3 ∧ Below w0.heap.size w0 w' ∧ KeepBut w w' g none := by
  obtain ⟨w1, h1, h2, h3⟩ := hI
  refine (octet_Reader_Word64.calls g s0_0 s0_1 s0_2 a1 r1 r2 r3 w1 w h3 h2 h).mono ?_
  rintro e w' ⟨he, hi, hb, hk⟩
  exact ⟨he, ⟨w1, h1, hb, hi⟩, below_then h1 h1.size hb, hk⟩
/-! ### plumblaw16_OctetShort: function 4 -/
mutual
def plumblaw16_OctetShort.l0 : Nat → List Int → Int → Int → Int → Int → Bool → List Int → Int → Bool → Option (Bool)
  | 0, _, _, _, _, _, _, _, _, _ => none
  | k + 1, x0, x1, x8, x115000, x115001, x115002, x119000, x119001, x119002 => if x8 < (x0.length : Int) then (plumblaw16_OctetShort.j1 k x0 x1 x8 (decide (x8 < x1)) x115000 x115001 x115002 x119000 x119001 x119002) else (plumblaw16_OctetShort.j1 k x0 x1 x8 false x115000 x115001 x115002 x119000 x119001 x119002)
def plumblaw16_OctetShort.j1 : Nat → List Int → Int → Int → Bool → Int → Int → Bool → List Int → Int → Bool → Option (Bool)
  | 0, _, _, _, _, _, _, _, _, _, _ => none
  | k + 1, x0, x1, x8, x24, x115000, x115001, x115002, x119000, x119001, x119002 => if x24 = true then ((octet_Reader_Byte.f x119000 x119001 x119002).bind fun bt119 => (if 0 ≤ x8 then (if x8 < (x0.length : Int) then (if bt119.1 = (rd x0 x8) then (plumblaw16_OctetShort.l0 k x0 x1 (wrap64 (x8 + 1)) x115000 x115001 x115002 x119000 bt119.2.1 bt119.2.2) else (some false)) else (none)) else (none))) else ((plumblaw16_Item_width.f x115000 x115001 x115002).bind fun t123 => (if t123 = 1 then ((octet_Reader_Byte.f x119000 x119001 x119002).bind fun bt124 => (plumblaw16_OctetShort.j2 k x8 t123 (wrap64 ((x0.length : Int) - x8)) (IntKind.u64.wrap (bt124.1)) x119000 bt124.2.1 bt124.2.2)) else (if t123 = 4 then ((octet_Reader_Word32.f x119000 x119001 x119002 x115002).bind fun bt127 => (plumblaw16_OctetShort.j2 k x8 t123 (wrap64 ((x0.length : Int) - x8)) (IntKind.u64.wrap (bt127.1)) x119000 bt127.2.1 bt127.2.2)) else (if t123 = 8 then ((octet_Reader_Word64.f x119000 x119001 x119002 x115002).bind fun bt130 => (plumblaw16_OctetShort.j2 k x8 t123 (wrap64 ((x0.length : Int) - x8)) bt130.1 x119000 bt130.2.1 bt130.2.2)) else (plumblaw16_OctetShort.j2 k x8 t123 (wrap64 ((x0.length : Int) - x8)) 1 x119000 x119001 x119002)))))
def plumblaw16_OctetShort.j2 : Nat → Int → Int → Int → Int → List Int → Int → Bool → Option (Bool)
  | 0, _, _, _, _, _, _, _ => none
  | k + 1, x8, x9, x10, x11, x119000, x119001, x119002 => if x10 ≥ x9 then ((octet_Reader_Err.f x119000 x119001 x119002).bind fun bt133 => (if bt133.1.isNone = true then ((octet_Reader_At.f x119000 bt133.2.1 bt133.2.2).bind fun bt137 => (if bt137.1 = (wrap64 (x8 + x9)) then ((octet_Reader_Left.f x119000 bt137.2.1 bt137.2.2).bind fun bt140 => (some (bt140.1 == (wrap64 (x10 - x9))))) else (some false))) else (some false))) else (if x11 = 0 then ((octet_Reader_Err.f x119000 x119001 x119002).bind fun bt143 => ((plumblaw16_sameErr.f bt143.1 160 x8).bind fun t146 => (if t146 = true then ((octet_Reader_At.f x119000 bt143.2.1 bt143.2.2).bind fun bt147 => (if bt147.1 = x8 then ((octet_Reader_Left.f x119000 bt147.2.1 bt147.2.2).bind fun bt150 => (if bt150.1 = x10 then ((octet_Reader_Byte.f x119000 bt150.2.1 bt150.2.2).bind fun bt153 => (if bt153.1 = 0 then ((octet_Reader_Word32.f x119000 bt153.2.1 bt153.2.2 true).bind fun bt156 => (if bt156.1 = 0 then ((octet_Reader_At.f x119000 bt156.2.1 bt156.2.2).bind fun bt159 => (if bt159.1 = x8 then ((octet_Reader_Err.f x119000 bt159.2.1 bt159.2.2).bind fun bt162 => ((plumblaw16_sameErr.f bt162.1 160 x8).bind fun t165 => (some t165))) else (some false))) else (some false))) else (some false))) else (some false))) else (some false))) else (some false)))) else (some false))
end
def plumblaw16_OctetShort.f (k : Nat) (l0 : List Int) (a1 : Int) (a2_0 : Int) (a2_1 : Int) (a2_2 : Bool) : Option (Bool) := (octet_NewReader.f l0).bind fun bt115 => (plumblaw16_OctetShort.l0 k l0 a1 0 a2_0 a2_1 a2_2 bt115.1 bt115.2.1 bt115.2.2)
theorem plumblaw16_OctetShort.mono_l : ∀ k, (∀ y0 y1 y2 y3 y4 y5 y6 y7 y8, LeO (plumblaw16_OctetShort.l0 k y0 y1 y2 y3 y4 y5 y6 y7 y8) (plumblaw16_OctetShort.l0 (k + 1) y0 y1 y2 y3 y4 y5 y6 y7 y8)) ∧ (∀ y0 y1 y2 y3 y4 y5 y6 y7 y8 y9, LeO (plumblaw16_OctetShort.j1 k y0 y1 y2 y3 y4 y5 y6 y7 y8 y9) (plumblaw16_OctetShort.j1 (k + 1) y0 y1 y2 y3 y4 y5 y6 y7 y8 y9)) ∧ (∀ y0 y1 y2 y3 y4 y5 y6, LeO (plumblaw16_OctetShort.j2 k y0 y1 y2 y3 y4 y5 y6) (plumblaw16_OctetShort.j2 (k + 1) y0 y1 y2 y3 y4 y5 y6))
  | 0 => ⟨fun _ _ _ _ _ _ _ _ _ r h => by simp [plumblaw16_OctetShort.l0] at h, fun _ _ _ _ _ _ _ _ _ _ r h => by simp [plumblaw16_OctetShort.j1] at h, fun _ _ _ _ _ _ _ r h => by simp [plumblaw16_OctetShort.j2] at h⟩
  | k + 1 => by
    obtain ⟨ih0, ih1, ih2⟩ := plumblaw16_OctetShort.mono_l k
    refine ⟨?_, ?_, ?_⟩
    · intro y0 y1 y2 y3 y4 y5 y6 y7 y8
      unfold plumblaw16_OctetShort.l0
      repeat' first
      | (with_reducible exact ih0 _ _ _ _ _ _ _ _ _)
      | (with_reducible exact ih1 _ _ _ _ _ _ _ _ _ _)
      | (with_reducible exact ih2 _ _ _ _ _ _ _)
      | (with_reducible exact LeO.refl _)
      | (with_reducible exact LeO.none _)
      | (with_reducible refine LeO.ite ?_ ?_)
      | (with_reducible refine LeO.bind ?_ (fun _ => ?_))
      | exact ih0 _ _ _ _ _ _ _ _ _
      | exact ih1 _ _ _ _ _ _ _ _ _ _
      | exact ih2 _ _ _ _ _ _ _
      | exact LeO.none _
      | refine LeO.ite ?_ ?_
      | refine LeO.bind ?_ (fun _ => ?_)
    · intro y0 y1 y2 y3 y4 y5 y6 y7 y8 y9
      unfold plumblaw16_OctetShort.j1
      repeat' first
      | (with_reducible exact ih0 _ _ _ _ _ _ _ _ _)
      | (with_reducible exact ih1 _ _ _ _ _ _ _ _ _ _)
      | (with_reducible exact ih2 _ _ _ _ _ _ _)
      | (with_reducible exact LeO.refl _)
      | (with_reducible exact LeO.none _)
      | (with_reducible refine LeO.ite ?_ ?_)
      | (with_reducible refine LeO.bind ?_ (fun _ => ?_))
      | exact ih0 _ _ _ _ _ _ _ _ _
      | exact ih1 _ _ _ _ _ _ _ _ _ _
      | exact ih2 _ _ _ _ _ _ _
      | exact LeO.none _
      | refine LeO.ite ?_ ?_
      | refine LeO.bind ?_ (fun _ => ?_)
    · intro y0 y1 y2 y3 y4 y5 y6
      unfold plumblaw16_OctetShort.j2
      repeat' first
      | (with_reducible exact ih0 _ _ _ _ _ _ _ _ _)
      | (with_reducible exact ih1 _ _ _ _ _ _ _ _ _ _)
      | (with_reducible exact ih2 _ _ _ _ _ _ _)
      | (with_reducible exact LeO.refl _)
      | (with_reducible exact LeO.none _)
      | (with_reducible refine LeO.ite ?_ ?_)
      | (with_reducible refine LeO.bind ?_ (fun _ => ?_))
      | exact ih0 _ _ _ _ _ _ _ _ _
      | exact ih1 _ _ _ _ _ _ _ _ _ _
      | exact ih2 _ _ _ _ _ _ _
      | exact LeO.none _
      | refine LeO.ite ?_ ?_
      | refine LeO.bind ?_ (fun _ => ?_)
theorem plumblaw16_OctetShort.mono : ∀ a0 a1 a2 a3 a4 k, LeO (plumblaw16_OctetShort.f k a0 a1 a2 a3 a4) (plumblaw16_OctetShort.f (k + 1) a0 a1 a2 a3 a4) := by
  intro a0 a1 a2 a3 a4 k
  obtain ⟨ih0, ih1, ih2⟩ := plumblaw16_OctetShort.mono_l k
  unfold plumblaw16_OctetShort.f
  repeat' first
      | (with_reducible exact ih0 _ _ _ _ _ _ _ _ _)
      | (with_reducible exact ih1 _ _ _ _ _ _ _ _ _ _)
      | (with_reducible exact ih2 _ _ _ _ _ _ _)
      | (with_reducible exact LeO.refl _)
      | (with_reducible exact LeO.none _)
      | (with_reducible refine LeO.ite ?_ ?_)
      | (with_reducible refine LeO.bind ?_ (fun _ => ?_))
      | exact ih0 _ _ _ _ _ _ _ _ _
      | exact ih1 _ _ _ _ _ _ _ _ _ _
      | exact ih2 _ _ _ _ _ _ _
      | exact LeO.none _
      | refine LeO.ite ?_ ?_
      | refine LeO.bind ?_ (fun _ => ?_)
set_option maxHeartbeats 8000000 in
set_option maxRecDepth 100000 in
theorem plumblaw16_OctetShort.calls (k : Nat) (A0 : Option Addr) (c0 : Nat) (l0 : List Int) (a1 : Int) (a2_0 : Int) (a2_1 : Int) (a2_2 : Bool) (r : Bool) (w : World) (hgl : Handle w) (hr0 : Kd.C (Kd.int .u8) w A0 l0.length l0) (hc0 : l0.length ≤ c0) (h : plumblaw16_OctetShort.f k l0 a1 a2_0 a2_1 a2_2 = some r) :
    Calls Tryd.prog 4 #[.slice A0 l0.length c0, .int .i64 a1, .agg #[.int .i64 a2_0, .int .u64 a2_1, .bool a2_2]] w fun e w' => e = .returned (.bool r) ∧ Below w.heap.size w w' := by
  have HHG := Aside0.mk hgl
  clear hgl
  have hu43 := Tryd.underlying43
  have hu38 := Tryd.underlying38
  have HR0 := Aside0.mk hr0
  have HC0 := Aside0.mk hc0
  clear hr0 hc0
  have HB := Aside0.mk (Below.refl w.heap.size w)
  have H : ((octet_NewReader.f l0).bind fun bt115 => (plumblaw16_OctetShort.l0 k l0 a1 0 a2_0 a2_1 a2_2 bt115.1 bt115.2.1 bt115.2.2)) = some r := h
  clear h
  replace H := Option.bind_eq_some_iff.mp H
  obtain ⟨⟨t115, t116, t117⟩, A40, H⟩ := H
  replace H : (plumblaw16_OctetShort.l0 k l0 a1 0 a2_0 a2_1 a2_2 t115 t116 t117) = some r := H
  have A4 := Aside0.mk A40
  clear A40
  have H' := Aside0.mk H
  clear H
  go_enter Tryd.func4, Tryd.ntmps4
  go_wp2_with (first | ((with_reducible refine gate_dst (N := 5) rfl ?_); refine box_event ?hg (N := 5) ?hd (cs := #[.int .i64 a2_0, .int .u64 a2_1, .bool a2_2]) (t := 43) ?hr ?_; (case hd => rfl); (case hg => rfl); (case hr => first | (go_simp; done) | (go_simp; rfl)); intro gb114 hg w5 hbox hb; have n0_ := Aside0.mk (below_step (by repeat (first | (with_reducible first | exact HB.out | apply below_alloc | apply pw_below_drewN | apply below_drew1) | exact HB.out)) hb); have n1_ := Aside0.mk (hbox); have n2_ := Aside0.mk ((by rw [hg]; exact (below_size (by repeat (first | (with_reducible first | exact HB.out | apply below_alloc | apply pw_below_drewN | apply below_drew1) | exact HB.out))) : w.heap.size ≤ gb114)); have n3_ := Aside0.mk ((by rw [hg]; exact (below_size (by repeat (first | (with_reducible first | exact HB.out | apply below_alloc | apply pw_below_drewN | apply below_drew1) | exact HB.out))) : w.heap.size ≤ gb114)); clear HB; have HB := n0_; have BK114 := n1_; have GW114 := n2_; have GE114 := n3_; clear n0_ n1_ n2_ n3_; clear hb hbox hg) | ((with_reducible refine gate_callee (f := 9) rfl ?_); refine goesL_ (some 13) rfl rfl Tryd.func9 (by kernel_rfl) rfl #[.slice A0 l0.length c0] rfl (by (try simp only [List.map_toArray, List.map_cons, List.map_nil]); first | done | rfl | (simp only [List.length_drop, List.length_take]; rfl)) ?_; (with_reducible refine (octet_NewReader.calls _ _ l0 t115 t116 t117 w _ ?side1 ?side2 ?side3 A4.out).mono ?_); (case side1 => repeat (first | (with_reducible first | exact HB.out | apply below_alloc | apply pw_below_drewN | apply below_drew1 | refine below_set ?_ GE114.out) | exact HB.out)); (case side2 => exact HR0.out); (case side3 => exact HC0.out); rintro e w6 ⟨g118, rfl, hi, hb, hb2⟩; refine ⟨_, rfl, ?_⟩; have n0_ := Aside0.mk (blk_below (g := gb114) (o := .cells #[.int .i64 a2_0, .int .u64 a2_1, .bool a2_2] 43 (0, 0)) (by (with_reducible repeat (first | refine blk_drewN ?_ _ | refine blk_drew ?_ | refine blk_alloc ?_ _)); exact BK114.out) hb2); have n1_ := Aside0.mk (hb); have n2_ := Aside0.mk (hi); have n3_ := Aside0.mk (IsR.ne_blk hi (blk_below (g := gb114) (o := .cells #[.int .i64 a2_0, .int .u64 a2_1, .bool a2_2] 43 (0, 0)) (by (with_reducible repeat (first | refine blk_drewN ?_ _ | refine blk_drew ?_ | refine blk_alloc ?_ _)); exact BK114.out) hb2) (by decide)); have n4_ := Aside0.mk (Ne.symm (IsR.ne_blk hi (blk_below (g := gb114) (o := .cells #[.int .i64 a2_0, .int .u64 a2_1, .bool a2_2] 43 (0, 0)) (by (with_reducible repeat (first | refine blk_drewN ?_ _ | refine blk_drew ?_ | refine blk_alloc ?_ _)); exact BK114.out) hb2) (by decide))); clear BK114; clear HB; have BK114 := n0_; have HB := n1_; have HI118 := n2_; have NB118_114 := n3_; have NB114_118 := n4_; clear n0_ n1_ n2_ n3_ n4_; (try clear hb); (try clear hb2); (try clear hk); (try clear hi)))
  go_loopg [8] k (fun kq v8 w' => ∃ (x8_1 : Int) (x119001_1 : Int) (x119002_1 : Bool), v8 = .int .i64 x8_1 ∧ Aside0 (plumblaw16_OctetShort.l0 kq l0 a1 x8_1 a2_0 a2_1 a2_2 t115 x119001_1 x119002_1 = some r) ∧ Aside0 (kq ≤ k) ∧ Aside0 (w'.heap[gb114]? = some (.cells #[.int .i64 a2_0, .int .u64 a2_1, .bool a2_2] 43 (0, 0))) ∧ Aside0 (IsR w w' g118 t115 x119001_1 x119002_1) ∧ Aside0 (Below w.heap.size w w'))
  case atStart => exact ⟨(0), (t116), (t117), (by first | rfl | (simp; done) | (simp [*]; done)), H', ⟨Nat.le_refl _⟩, ⟨by (with_reducible repeat (first | refine blk_drewN ?_ _ | refine blk_drew ?_ | refine blk_alloc ?_ _)); exact BK114.out⟩, ⟨by repeat (first | (with_reducible first | exact HI118.out | apply IsR.alloc | apply IsR.drewN | apply IsR.drew | apply IsR.set_1 | apply IsR.set_2 | refine IsR.far ?_ NB118_114.out _) | exact HI118.out)⟩, ⟨by repeat (first | (with_reducible first | exact HB.out | apply below_alloc | apply pw_below_drewN | apply below_drew1 | refine below_set ?_ (IsR.ge HI118.out) | refine below_set ?_ GE114.out) | exact HB.out)⟩⟩
  case round =>
    clear H'
    try clear p2
    try clear c4
    obtain ⟨x8_1, x119001_1, x119002_1, rfl, HA, HK1, BK114, HI118, HB⟩ := hrel
    cases gk with
    | zero => exact absurd HA.out (by simp [plumblaw16_OctetShort.l0])
    | succ k1 =>
      have H := HA.out
      clear HA
      simp only [plumblaw16_OctetShort.l0] at H
      have HC7 := Aside0.mk H
      clear H
      go_upto_region 5 with (fail)
      go_cut [24] (fun v24 wc => ∃ (kq : Nat) (x24_6 : Bool), v24 = .bool x24_6 ∧ Aside0 (plumblaw16_OctetShort.j1 kq l0 a1 x8_1 x24_6 a2_0 a2_1 a2_2 t115 x119001_1 x119002_1 = some r) ∧ Aside0 (kq ≤ k1) ∧ Aside0 (wc.heap[gb114]? = some (.cells #[.int .i64 a2_0, .int .u64 a2_1, .bool a2_2] 43 (0, 0))) ∧ Aside0 (IsR w wc g118 t115 x119001_1 x119002_1) ∧ Aside0 (Below w.heap.size w wc))
      case first =>
        have H := HC7.out
        clear HC7
        by_cases c8 : x8_1 < (l0.length : Int)
        · rw [if_pos c8] at H
          have c8b0 : decide (x8_1 < (l0.length : Int)) = true := decide_eq_true c8
          clear c8
          (first | rw [c8b0] | (simp only [i64_w, i32_w]; rw [c8b0]) | skip)
          have H' := Aside0.mk H
          clear H
          go_wp2
          go_meet
          case rel => exact ⟨_, (decide (x8_1 < a1)), (by first | rfl | (simp; done) | (simp [*]; done)), H', ⟨by have := HK1.out; first | omega | exact Nat.le_refl _⟩, ⟨by (with_reducible repeat (first | refine blk_drewN ?_ _ | refine blk_drew ?_ | refine blk_alloc ?_ _)); exact BK114.out⟩, ⟨by repeat (first | (with_reducible first | exact HI118.out | apply IsR.alloc | apply IsR.drewN | apply IsR.drew | apply IsR.set_1 | apply IsR.set_2 | refine IsR.far ?_ NB118_114.out _) | exact HI118.out)⟩, ⟨by repeat (first | (with_reducible first | exact HB.out | apply below_alloc | apply pw_below_drewN | apply below_drew1 | refine below_set ?_ (IsR.ge HI118.out) | refine below_set ?_ GE114.out) | exact HB.out)⟩⟩
        · rw [if_neg c8] at H
          have c8b0 : decide (x8_1 < (l0.length : Int)) = false := decide_eq_false c8
          clear c8
          (first | rw [c8b0] | (simp only [i64_w, i32_w]; rw [c8b0]) | skip)
          have H' := Aside0.mk H
          clear H
          go_wp2
          go_meet
          case rel => exact ⟨_, (false), (by first | rfl | (simp; done) | (simp [*]; done)), H', ⟨by have := HK1.out; first | omega | exact Nat.le_refl _⟩, ⟨by (with_reducible repeat (first | refine blk_drewN ?_ _ | refine blk_drew ?_ | refine blk_alloc ?_ _)); exact BK114.out⟩, ⟨by repeat (first | (with_reducible first | exact HI118.out | apply IsR.alloc | apply IsR.drewN | apply IsR.drew | apply IsR.set_1 | apply IsR.set_2 | refine IsR.far ?_ NB118_114.out _) | exact HI118.out)⟩, ⟨by repeat (first | (with_reducible first | exact HB.out | apply below_alloc | apply pw_below_drewN | apply below_drew1 | refine below_set ?_ (IsR.ge HI118.out) | refine below_set ?_ GE114.out) | exact HB.out)⟩⟩
      case rest =>
        clear HC7
        try clear p2
        try clear c4
        try clear c8
        try clear c8b0
        try clear p2
        obtain ⟨kq, x24_6, rfl, HA, HJ6, BK114, HI118, HB⟩ := hcut
        cases kq with
        | zero => exact absurd HA.out (by simp [plumblaw16_OctetShort.j1])
        | succ kj6 =>
          have H := HA.out
          clear HA
          simp only [plumblaw16_OctetShort.j1] at H
          by_cases c9 : x24_6 = true
          · subst c9
            have H1 : ((octet_Reader_Byte.f t115 x119001_1 x119002_1).bind fun bt119 => (if 0 ≤ x8_1 then (if x8_1 < (l0.length : Int) then (if bt119.1 = (rd l0 x8_1) then (plumblaw16_OctetShort.l0 kj6 l0 a1 (wrap64 (x8_1 + 1)) a2_0 a2_1 a2_2 t115 bt119.2.1 bt119.2.2) else (some false)) else (none)) else (none))) = some r := by rw [if_pos rfl] at H; exact H
            clear H
            have H := H1
            clear H1
            replace H := Option.bind_eq_some_iff.mp H
            obtain ⟨⟨t119, t120, t121⟩, A100, H⟩ := H
            replace H : (if 0 ≤ x8_1 then (if x8_1 < (l0.length : Int) then (if t119 = (rd l0 x8_1) then (plumblaw16_OctetShort.l0 kj6 l0 a1 (wrap64 (x8_1 + 1)) a2_0 a2_1 a2_2 t115 t120 t121) else (some false)) else (none)) else (none)) = some r := H
            have A10 := Aside0.mk A100
            clear A100
            by_cases c11 : 0 ≤ x8_1
            · rw [if_pos c11] at H
              have c11b0 : decide (0 ≤ x8_1) = true := decide_eq_true c11
              clear c11
              by_cases c12 : x8_1 < (l0.length : Int)
              · rw [if_pos c12] at H
                have c12b0 : decide (x8_1 < (l0.length : Int)) = true := decide_eq_true c12
                clear c12
                by_cases c13 : t119 = (rd l0 x8_1)
                · rw [if_pos c13] at H
                  have c13b0 : (t119 == (rd l0 x8_1)) = true := beq_iff_eq.mpr c13
                  have c13b1 : (t119 != (rd l0 x8_1)) = false := bne_eq_false_iff_eq.mpr c13
                  clear c13
                  have H' := Aside0.mk H
                  clear H
                  try go_wp2
                  have n0_ := Aside0.mk (blk_drew BK114.out)
                  have n1_ := Aside0.mk (IsR.drew HI118.out)
                  have n2_ := Aside0.mk (below_drew1 HB.out)
                  clear BK114
                  clear HI118
                  clear HB
                  have BK114 := n0_
                  have HI118 := n1_
                  have HB := n2_
                  clear n0_ n1_ n2_
                  have p122 : 0 ≤ (x8_1 : Int) := of_decide_eq_true (by first | (with_reducible assumption) | assumption)
                  have q122 : x8_1 < (l0.length : Int) := of_decide_eq_true (by first | (with_reducible assumption) | assumption)
                  obtain ⟨ad122, e122, hx122_0⟩ := Kd.at_int HR0.out x8_1 p122 q122
                  have hw122_0 := hx122_0
                  cases e122
                  replace hx122_0 := (HB.out.cell (World.block_lt_of_cell? w _ hx122_0)).trans hx122_0
                  replace p122 := eq_true p122
                  replace q122 := eq_true q122
                  refine start_ (n := 7) (S := fun w' => w'.cell? (ad122.add (x8_1).toNat) = some (.int .u8 (rd l0 x8_1))) (ds := []) #[false, false, false, false, false, false, false] (by kernel_rfl) rfl rfl (((HB.out.cell (World.block_lt_of_cell? w _ hw122_0)).trans hw122_0)) (fun hHeld => ?_)
                  generalize wc.drew = w14 at BK114 HI118 HB hx122_0 hHeld ⊢
                  refine pure_ (i := 0) (N := some 25) (v := ?_) (a' := ?_) #[true, false, false, false, false, false, false] rfl rfl (by kernel_rfl) (fun _ _ _ h => h) (Or.inl ⟨by rfl, ?_⟩) ?_ ?_
                  rotate_left
                  · intro w'
                    go_simp
                    with_reducible rfl
                  rotate_left
                  · simp only [Act.put, List.setIfInBounds_toArray, List.set_cons_zero, List.set_cons_succ, i64_w, i32_w]
                    rfl
                  refine pure_ (i := 2) (N := some 27) (v := ?_) (a' := ?_) #[true, false, true, false, false, false, false] rfl rfl (by kernel_rfl) (fun _ _ _ h => h) (Or.inl ⟨by rfl, ?_⟩) ?_ ?_
                  rotate_left
                  · intro w'
                    go_simp
                    with_reducible rfl
                  rotate_left
                  · simp only [Act.put, List.setIfInBounds_toArray, List.set_cons_zero, List.set_cons_succ, i64_w, i32_w]
                    rfl
                  refine pure_ (i := 3) (N := some 28) (v := ?_) (a' := ?_) #[true, false, true, true, false, false, false] rfl rfl (by kernel_rfl) (fun _ _ _ h => h) (Or.inl ⟨by rfl, ?_⟩) ?_ ?_
                  rotate_left
                  · intro w'
                    go_simp
                    with_reducible rfl
                  rotate_left
                  · simp only [Act.put, List.setIfInBounds_toArray, List.set_cons_zero, List.set_cons_succ, i64_w, i32_w]
                    rfl
                  refine pure_ (i := 4) (N := some 29) (v := ?_) (a' := ?_) #[true, false, true, true, true, false, false] rfl rfl (by kernel_rfl) (fun _ _ _ h => h) (Or.inl ⟨by rfl, ?_⟩) ?_ ?_
                  rotate_left
                  · intro w'
                    go_simp
                    with_reducible rfl
                  rotate_left
                  · simp only [Act.put, List.setIfInBounds_toArray, List.set_cons_zero, List.set_cons_succ, i64_w, i32_w]
                    rfl
                  refine take_ (i := 5) (N := some 30) (v := ?_) (a' := ?_) #[true, false, true, true, true, true, false] rfl rfl (by kernel_rfl) (fun _ _ _ h => h) (Or.inl ⟨by rfl, ?_⟩) hHeld ?_ ?_
                  rotate_left
                  · intro w' s0
                    go_simp
                    with_reducible rfl
                  rotate_left
                  · simp only [Act.put, List.setIfInBounds_toArray, List.set_cons_zero, List.set_cons_succ, i64_w, i32_w]
                    rfl
                  refine one_ (i := 1) (N := some 26) #[true, true, true, true, true, true, false] rfl rfl (by kernel_rfl) (by decide) (fun K hK => ?_)
                  refine goes_ Tryd.func17 (by kernel_rfl) rfl #[.pointer (some ⟨g118, 0, none⟩)] (by rfl) rfl rfl (by (try simp only [List.map_toArray, List.map_cons, List.map_nil]); first | done | rfl | (simp only [List.length_drop, List.length_take]; rfl)) ?_
                  with_reducible refine (octet_Reader_Byte.callsR g118 t115 x119001_1 x119002_1 t119 t120 t121 w _ ?side1 ?side2 A10.out).mono ?_
                  (case side1 => repeat (first | (with_reducible first | exact HI118.out | apply IsR.alloc | apply IsR.drewN | apply IsR.drew | apply IsR.set_1 | apply IsR.set_2 | refine IsR.far ?_ NB118_114.out _) | exact HI118.out))
                  (case side2 => repeat (first | (with_reducible first | exact HB.out | apply below_alloc | apply pw_below_drewN | apply below_drew1 | refine below_set ?_ (IsR.ge HI118.out) | refine below_set ?_ GE114.out) | exact HB.out))
                  rintro e w15 ⟨rfl, hi, hb, hk⟩
                  refine ⟨_, rfl, ?_⟩
                  have n0_ := Aside0.mk (KeepBut.blk hk (g' := gb114) (o := .cells #[.int .i64 a2_0, .int .u64 a2_1, .bool a2_2] 43 (0, 0)) (by (with_reducible repeat (first | refine blk_drewN ?_ _ | refine blk_drew ?_ | refine blk_alloc ?_ _)); exact BK114.out) NB114_118.out (by simp))
                  have n1_ := Aside0.mk (hb)
                  have n2_ := Aside0.mk (hi)
                  clear BK114
                  clear HB
                  clear HI118
                  have BK114 := n0_
                  have HB := n1_
                  have HI118 := n2_
                  clear n0_ n1_ n2_
                  (try clear hb)
                  (try clear hb2)
                  (try clear hk)
                  (try clear hi)
                  refine hK.out _ _ (((HB.out.cell (World.block_lt_of_cell? w _ hw122_0)).trans hw122_0)) (fun hHeld => ?_)
                  clear hK K
                  refine norm_ (a' := ?_) ?_ ?_
                  rotate_left
                  · show Act.put _ (some 26) _ = _
                    simp only [Act.put, List.setIfInBounds_toArray, List.set_cons_zero, List.set_cons_succ, i64_w, i32_w]
                    rfl
                  refine pure_ (i := 6) (N := some 31) (v := ?_) (a' := ?_) #[true, true, true, true, true, true, true] rfl rfl (by kernel_rfl) (fun _ _ _ h => h) (Or.inl ⟨by rfl, ?_⟩) ?_ ?_
                  rotate_left
                  · intro w'
                    go_simp
                    with_reducible rfl
                  rotate_left
                  · simp only [Act.put, List.setIfInBounds_toArray, List.set_cons_zero, List.set_cons_succ, i64_w, i32_w]
                    rfl
                  refine done_ (by kernel_rfl) ?_
                  try go_wp2
                  go_roundg kj6
                  case measure => have := HK1.out; have := HJ6.out; omega
                  case rel => exact ⟨(wrap64 (x8_1 + 1)), (t120), (t121), (by first | rfl | (simp; done) | (simp [*]; done)), H', ⟨by have := HK1.out; have := HJ6.out; omega⟩, ⟨by (with_reducible repeat (first | refine blk_drewN ?_ _ | refine blk_drew ?_ | refine blk_alloc ?_ _)); exact BK114.out⟩, ⟨by repeat (first | (with_reducible first | exact HI118.out | apply IsR.alloc | apply IsR.drewN | apply IsR.drew | apply IsR.set_1 | apply IsR.set_2 | refine IsR.far ?_ NB118_114.out _) | exact HI118.out)⟩, ⟨by repeat (first | (with_reducible first | exact HB.out | apply below_alloc | apply pw_below_drewN | apply below_drew1 | refine below_set ?_ (IsR.ge HI118.out) | refine below_set ?_ GE114.out) | exact HB.out)⟩⟩
                · rw [if_neg c13] at H
                  have c13b0 : (t119 == (rd l0 x8_1)) = false := beq_eq_false_iff_ne.mpr c13
                  have c13b1 : (t119 != (rd l0 x8_1)) = true := bne_iff_ne.mpr c13
                  obtain rfl := Option.some.inj H
                  try go_wp2
                  have n0_ := Aside0.mk (blk_drew BK114.out)
                  have n1_ := Aside0.mk (IsR.drew HI118.out)
                  have n2_ := Aside0.mk (below_drew1 HB.out)
                  clear BK114
                  clear HI118
                  clear HB
                  have BK114 := n0_
                  have HI118 := n1_
                  have HB := n2_
                  clear n0_ n1_ n2_
                  have p122 : 0 ≤ (x8_1 : Int) := of_decide_eq_true (by first | (with_reducible assumption) | assumption)
                  have q122 : x8_1 < (l0.length : Int) := of_decide_eq_true (by first | (with_reducible assumption) | assumption)
                  obtain ⟨ad122, e122, hx122_0⟩ := Kd.at_int HR0.out x8_1 p122 q122
                  have hw122_0 := hx122_0
                  cases e122
                  replace hx122_0 := (HB.out.cell (World.block_lt_of_cell? w _ hx122_0)).trans hx122_0
                  replace p122 := eq_true p122
                  replace q122 := eq_true q122
                  refine start_ (n := 7) (S := fun w' => w'.cell? (ad122.add (x8_1).toNat) = some (.int .u8 (rd l0 x8_1))) (ds := []) #[false, false, false, false, false, false, false] (by kernel_rfl) rfl rfl (((HB.out.cell (World.block_lt_of_cell? w _ hw122_0)).trans hw122_0)) (fun hHeld => ?_)
                  generalize wc.drew = w16 at BK114 HI118 HB hx122_0 hHeld ⊢
                  refine pure_ (i := 0) (N := some 25) (v := ?_) (a' := ?_) #[true, false, false, false, false, false, false] rfl rfl (by kernel_rfl) (fun _ _ _ h => h) (Or.inl ⟨by rfl, ?_⟩) ?_ ?_
                  rotate_left
                  · intro w'
                    go_simp
                    with_reducible rfl
                  rotate_left
                  · simp only [Act.put, List.setIfInBounds_toArray, List.set_cons_zero, List.set_cons_succ, i64_w, i32_w]
                    rfl
                  refine pure_ (i := 2) (N := some 27) (v := ?_) (a' := ?_) #[true, false, true, false, false, false, false] rfl rfl (by kernel_rfl) (fun _ _ _ h => h) (Or.inl ⟨by rfl, ?_⟩) ?_ ?_
                  rotate_left
                  · intro w'
                    go_simp
                    with_reducible rfl
                  rotate_left
                  · simp only [Act.put, List.setIfInBounds_toArray, List.set_cons_zero, List.set_cons_succ, i64_w, i32_w]
                    rfl
                  refine pure_ (i := 3) (N := some 28) (v := ?_) (a' := ?_) #[true, false, true, true, false, false, false] rfl rfl (by kernel_rfl) (fun _ _ _ h => h) (Or.inl ⟨by rfl, ?_⟩) ?_ ?_
                  rotate_left
                  · intro w'
                    go_simp
                    with_reducible rfl
                  rotate_left
                  · simp only [Act.put, List.setIfInBounds_toArray, List.set_cons_zero, List.set_cons_succ, i64_w, i32_w]
                    rfl
                  refine pure_ (i := 4) (N := some 29) (v := ?_) (a' := ?_) #[true, false, true, true, true, false, false] rfl rfl (by kernel_rfl) (fun _ _ _ h => h) (Or.inl ⟨by rfl, ?_⟩) ?_ ?_
                  rotate_left
                  · intro w'
                    go_simp
                    with_reducible rfl
                  rotate_left
                  · simp only [Act.put, List.setIfInBounds_toArray, List.set_cons_zero, List.set_cons_succ, i64_w, i32_w]
                    rfl
                  refine take_ (i := 5) (N := some 30) (v := ?_) (a' := ?_) #[true, false, true, true, true, true, false] rfl rfl (by kernel_rfl) (fun _ _ _ h => h) (Or.inl ⟨by rfl, ?_⟩) hHeld ?_ ?_
                  rotate_left
                  · intro w' s0
                    go_simp
                    with_reducible rfl
                  rotate_left
                  · simp only [Act.put, List.setIfInBounds_toArray, List.set_cons_zero, List.set_cons_succ, i64_w, i32_w]
                    rfl
                  refine one_ (i := 1) (N := some 26) #[true, true, true, true, true, true, false] rfl rfl (by kernel_rfl) (by decide) (fun K hK => ?_)
                  refine goes_ Tryd.func17 (by kernel_rfl) rfl #[.pointer (some ⟨g118, 0, none⟩)] (by rfl) rfl rfl (by (try simp only [List.map_toArray, List.map_cons, List.map_nil]); first | done | rfl | (simp only [List.length_drop, List.length_take]; rfl)) ?_
                  with_reducible refine (octet_Reader_Byte.callsR g118 t115 x119001_1 x119002_1 t119 t120 t121 w _ ?side1 ?side2 A10.out).mono ?_
                  (case side1 => repeat (first | (with_reducible first | exact HI118.out | apply IsR.alloc | apply IsR.drewN | apply IsR.drew | apply IsR.set_1 | apply IsR.set_2 | refine IsR.far ?_ NB118_114.out _) | exact HI118.out))
                  (case side2 => repeat (first | (with_reducible first | exact HB.out | apply below_alloc | apply pw_below_drewN | apply below_drew1 | refine below_set ?_ (IsR.ge HI118.out) | refine below_set ?_ GE114.out) | exact HB.out))
                  rintro e w17 ⟨rfl, hi, hb, hk⟩
                  refine ⟨_, rfl, ?_⟩
                  have n0_ := Aside0.mk (KeepBut.blk hk (g' := gb114) (o := .cells #[.int .i64 a2_0, .int .u64 a2_1, .bool a2_2] 43 (0, 0)) (by (with_reducible repeat (first | refine blk_drewN ?_ _ | refine blk_drew ?_ | refine blk_alloc ?_ _)); exact BK114.out) NB114_118.out (by simp))
                  have n1_ := Aside0.mk (hb)
                  have n2_ := Aside0.mk (hi)
                  clear BK114
                  clear HB
                  clear HI118
                  have BK114 := n0_
                  have HB := n1_
                  have HI118 := n2_
                  clear n0_ n1_ n2_
                  (try clear hb)
                  (try clear hb2)
                  (try clear hk)
                  (try clear hi)
                  refine hK.out _ _ (((HB.out.cell (World.block_lt_of_cell? w _ hw122_0)).trans hw122_0)) (fun hHeld => ?_)
                  clear hK K
                  refine norm_ (a' := ?_) ?_ ?_
                  rotate_left
                  · show Act.put _ (some 26) _ = _
                    simp only [Act.put, List.setIfInBounds_toArray, List.set_cons_zero, List.set_cons_succ, i64_w, i32_w]
                    rfl
                  refine pure_ (i := 6) (N := some 31) (v := ?_) (a' := ?_) #[true, true, true, true, true, true, true] rfl rfl (by kernel_rfl) (fun _ _ _ h => h) (Or.inl ⟨by rfl, ?_⟩) ?_ ?_
                  rotate_left
                  · intro w'
                    go_simp
                    with_reducible rfl
                  rotate_left
                  · simp only [Act.put, List.setIfInBounds_toArray, List.set_cons_zero, List.set_cons_succ, i64_w, i32_w]
                    rfl
                  refine done_ (by kernel_rfl) ?_
                  try go_wp2
                  go_ret
                  exact ⟨by first | rfl | (simp [errW_none, errW_some] <;> rfl) | (simp [*, errW_none, errW_some] <;> rfl), by repeat (first | (with_reducible first | exact HB.out | apply below_alloc | apply pw_below_drewN | apply below_drew1 | refine below_set ?_ (IsR.ge HI118.out) | refine below_set ?_ GE114.out) | exact HB.out)⟩
              · rw [if_neg c12] at H
                exact absurd H (by simp)
            · rw [if_neg c11] at H
              exact absurd H (by simp)
          · replace c9 := Bool.eq_false_iff.mpr c9
            subst c9
            have H1 : ((plumblaw16_Item_width.f a2_0 a2_1 a2_2).bind fun t123 => (if t123 = 1 then ((octet_Reader_Byte.f t115 x119001_1 x119002_1).bind fun bt124 => (plumblaw16_OctetShort.j2 kj6 x8_1 t123 (wrap64 ((l0.length : Int) - x8_1)) (IntKind.u64.wrap (bt124.1)) t115 bt124.2.1 bt124.2.2)) else (if t123 = 4 then ((octet_Reader_Word32.f t115 x119001_1 x119002_1 a2_2).bind fun bt127 => (plumblaw16_OctetShort.j2 kj6 x8_1 t123 (wrap64 ((l0.length : Int) - x8_1)) (IntKind.u64.wrap (bt127.1)) t115 bt127.2.1 bt127.2.2)) else (if t123 = 8 then ((octet_Reader_Word64.f t115 x119001_1 x119002_1 a2_2).bind fun bt130 => (plumblaw16_OctetShort.j2 kj6 x8_1 t123 (wrap64 ((l0.length : Int) - x8_1)) bt130.1 t115 bt130.2.1 bt130.2.2)) else (plumblaw16_OctetShort.j2 kj6 x8_1 t123 (wrap64 ((l0.length : Int) - x8_1)) 1 t115 x119001_1 x119002_1))))) = some r := by rw [if_neg (show ¬ (false = true) by decide)] at H; exact H
            clear H
            have H := H1
            clear H1
            replace H := Option.bind_eq_some_iff.mp H
            obtain ⟨t123, A180, H⟩ := H
            replace H : (if t123 = 1 then ((octet_Reader_Byte.f t115 x119001_1 x119002_1).bind fun bt124 => (plumblaw16_OctetShort.j2 kj6 x8_1 t123 (wrap64 ((l0.length : Int) - x8_1)) (IntKind.u64.wrap (bt124.1)) t115 bt124.2.1 bt124.2.2)) else (if t123 = 4 then ((octet_Reader_Word32.f t115 x119001_1 x119002_1 a2_2).bind fun bt127 => (plumblaw16_OctetShort.j2 kj6 x8_1 t123 (wrap64 ((l0.length : Int) - x8_1)) (IntKind.u64.wrap (bt127.1)) t115 bt127.2.1 bt127.2.2)) else (if t123 = 8 then ((octet_Reader_Word64.f t115 x119001_1 x119002_1 a2_2).bind fun bt130 => (plumblaw16_OctetShort.j2 kj6 x8_1 t123 (wrap64 ((l0.length : Int) - x8_1)) bt130.1 t115 bt130.2.1 bt130.2.2)) else (plumblaw16_OctetShort.j2 kj6 x8_1 t123 (wrap64 ((l0.length : Int) - x8_1)) 1 t115 x119001_1 x119002_1)))) = some r := H
            have A18 := Aside0.mk A180
            clear A180
            have HC19 := Aside0.mk H
            clear H
            have hnb20 := NB114_118.out
            have hnc20 := NB118_114.out
            have hcz21_0 : wc.cell? ⟨gb114, 0, none⟩ = some (.int .i64 a2_0) := (blk_cell BK114.out 0).trans rfl
            have hcz21_1 : wc.cell? ⟨gb114, 1, none⟩ = some (.int .u64 a2_1) := (blk_cell BK114.out 1).trans rfl
            have hcz21_2 : wc.cell? ⟨gb114, 2, none⟩ = some (.bool a2_2) := (blk_cell BK114.out 2).trans rfl
            have hfz21_0 := blk_frozen BK114.out 0
            have hfz21_1 := blk_frozen BK114.out 1
            have hfz21_2 := blk_frozen BK114.out 2
            go_upto_block 2 with (first | ((with_reducible refine gate_callee (f := 18) rfl ?_); refine goesL_ (some 35) rfl rfl Tryd.func18 (by kernel_rfl) rfl #[.agg #[.int .i64 a2_0, .int .u64 a2_1, .bool a2_2]] rfl (by (try simp only [List.map_toArray, List.map_cons, List.map_nil]); first | done | rfl | (simp only [List.length_drop, List.length_take]; rfl)) ?_; (with_reducible refine (plumblaw16_Item_width.calls a2_0 a2_1 a2_2 t123 _ A18.out).mono ?_); rintro e w22 ⟨rfl, hb⟩; refine ⟨_, rfl, ?_⟩; (try (have HEV2 := Aside0.mk (EV_below (by first | exact HEV.out | exact EV_drewN HEV.out _ | exact EV_alloc HEV.out _ | exact EV_drew HEV.out) hb); clear HEV; have HEV := HEV2; clear HEV2)); have n0_ := Aside0.mk (blk_below (g := gb114) (o := .cells #[.int .i64 a2_0, .int .u64 a2_1, .bool a2_2] 43 (0, 0)) (by (with_reducible repeat (first | refine blk_drewN ?_ _ | refine blk_drew ?_ | refine blk_alloc ?_ _)); exact BK114.out) hb); have n1_ := Aside0.mk (IsR.below (by repeat (first | (with_reducible first | exact HI118.out | apply IsR.alloc | apply IsR.drewN | apply IsR.drew | apply IsR.set_1 | apply IsR.set_2 | refine IsR.far ?_ NB118_114.out _) | exact HI118.out)) hb); have n2_ := Aside0.mk (below_step (by repeat (first | (with_reducible first | exact HB.out | apply below_alloc | apply pw_below_drewN | apply below_drew1 | refine below_set ?_ (IsR.ge HI118.out) | refine below_set ?_ GE114.out) | exact HB.out)) hb); clear BK114; clear HI118; clear HB; have BK114 := n0_; have HI118 := n1_; have HB := n2_; clear n0_ n1_ n2_; (try clear hb); (try clear hb2); (try clear hk); (try clear hi)))
            (try simp only [Act.put, List.setIfInBounds_toArray, List.set_cons_zero, List.set_cons_succ])
            go_cut [11] (fun v11 wc => ∃ (kq : Nat) (x11_18 : Int) (x119001_18 : Int) (x119002_18 : Bool), v11 = .int .u64 x11_18 ∧ Aside0 (plumblaw16_OctetShort.j2 kq x8_1 t123 (wrap64 ((l0.length : Int) - x8_1)) x11_18 t115 x119001_18 x119002_18 = some r) ∧ Aside0 (kq ≤ kj6) ∧ Aside0 (wc.heap[gb114]? = some (.cells #[.int .i64 a2_0, .int .u64 a2_1, .bool a2_2] 43 (0, 0))) ∧ Aside0 (IsR w wc g118 t115 x119001_18 x119002_18) ∧ Aside0 (Below w.heap.size w wc))
            case first =>
              have H := HC19.out
              clear HC19
              by_cases c23 : t123 = 1
              · rw [if_pos c23] at H
                have c23b0 : (t123 == 1) = true := beq_iff_eq.mpr c23
                have c23b1 : (t123 != 1) = false := bne_eq_false_iff_eq.mpr c23
                clear c23
                (first | rw [c23b0] | (simp only [i64_w, i32_w]; rw [c23b0]) | skip)
                replace H := Option.bind_eq_some_iff.mp H
                obtain ⟨⟨t124, t125, t126⟩, A240, H⟩ := H
                replace H : (plumblaw16_OctetShort.j2 kj6 x8_1 t123 (wrap64 ((l0.length : Int) - x8_1)) (IntKind.u64.wrap (t124)) t115 t125 t126) = some r := H
                have A24 := Aside0.mk A240
                clear A240
                have H' := Aside0.mk H
                clear H
                go_wp2_with (first | ((with_reducible refine gate_callee (f := 17) rfl ?_); refine goesL_ (some 44) rfl rfl Tryd.func17 (by kernel_rfl) rfl #[.pointer (some ⟨g118, 0, none⟩)] rfl (by (try simp only [List.map_toArray, List.map_cons, List.map_nil]); first | done | rfl | (simp only [List.length_drop, List.length_take]; rfl)) ?_; (with_reducible refine (octet_Reader_Byte.callsR g118 t115 x119001_1 x119002_1 t124 t125 t126 w _ ?side1 ?side2 A24.out).mono ?_); (case side1 => repeat (first | (with_reducible first | exact HI118.out | apply IsR.alloc | apply IsR.drewN | apply IsR.drew | apply IsR.set_1 | apply IsR.set_2 | refine IsR.far ?_ NB118_114.out _) | exact HI118.out)); (case side2 => repeat (first | (with_reducible first | exact HB.out | apply below_alloc | apply pw_below_drewN | apply below_drew1 | refine below_set ?_ (IsR.ge HI118.out) | refine below_set ?_ GE114.out) | exact HB.out)); rintro e w25 ⟨rfl, hi, hb, hk⟩; refine ⟨_, rfl, ?_⟩; have n0_ := Aside0.mk (KeepBut.blk hk (g' := gb114) (o := .cells #[.int .i64 a2_0, .int .u64 a2_1, .bool a2_2] 43 (0, 0)) (by (with_reducible repeat (first | refine blk_drewN ?_ _ | refine blk_drew ?_ | refine blk_alloc ?_ _)); exact BK114.out) NB114_118.out (by simp)); have n1_ := Aside0.mk (hb); have n2_ := Aside0.mk (hi); clear BK114; clear HB; clear HI118; have BK114 := n0_; have HB := n1_; have HI118 := n2_; clear n0_ n1_ n2_; (try clear hb); (try clear hb2); (try clear hk); (try clear hi)))
                go_meet
                case rel => exact ⟨_, (IntKind.u64.wrap (t124)), (t125), (t126), (by first | rfl | (simp; done) | (simp [*]; done)), H', ⟨by have := HK1.out; have := HJ6.out; first | omega | exact Nat.le_refl _⟩, ⟨by (with_reducible repeat (first | refine blk_drewN ?_ _ | refine blk_drew ?_ | refine blk_alloc ?_ _)); exact BK114.out⟩, ⟨by repeat (first | (with_reducible first | exact HI118.out | apply IsR.alloc | apply IsR.drewN | apply IsR.drew | apply IsR.set_1 | apply IsR.set_2 | refine IsR.far ?_ NB118_114.out _) | exact HI118.out)⟩, ⟨by repeat (first | (with_reducible first | exact HB.out | apply below_alloc | apply pw_below_drewN | apply below_drew1 | refine below_set ?_ (IsR.ge HI118.out) | refine below_set ?_ GE114.out) | exact HB.out)⟩⟩
              · rw [if_neg c23] at H
                have c23b0 : (t123 == 1) = false := beq_eq_false_iff_ne.mpr c23
                have c23b1 : (t123 != 1) = true := bne_iff_ne.mpr c23
                (first | rw [c23b0] | (simp only [i64_w, i32_w]; rw [c23b0]) | skip)
                by_cases c26 : t123 = 4
                · rw [if_pos c26] at H
                  have c26b0 : (t123 == 4) = true := beq_iff_eq.mpr c26
                  have c26b1 : (t123 != 4) = false := bne_eq_false_iff_eq.mpr c26
                  clear c26
                  replace H := Option.bind_eq_some_iff.mp H
                  obtain ⟨⟨t127, t128, t129⟩, A270, H⟩ := H
                  replace H : (plumblaw16_OctetShort.j2 kj6 x8_1 t123 (wrap64 ((l0.length : Int) - x8_1)) (IntKind.u64.wrap (t127)) t115 t128 t129) = some r := H
                  have A27 := Aside0.mk A270
                  clear A270
                  have H' := Aside0.mk H
                  clear H
                  have hnb28 := NB114_118.out
                  have hnc28 := NB118_114.out
                  have hcz29_0 : w22.cell? ⟨gb114, 0, none⟩ = some (.int .i64 a2_0) := (blk_cell BK114.out 0).trans rfl
                  have hcz29_1 : w22.cell? ⟨gb114, 1, none⟩ = some (.int .u64 a2_1) := (blk_cell BK114.out 1).trans rfl
                  have hcz29_2 : w22.cell? ⟨gb114, 2, none⟩ = some (.bool a2_2) := (blk_cell BK114.out 2).trans rfl
                  have hfz29_0 := blk_frozen BK114.out 0
                  have hfz29_1 := blk_frozen BK114.out 1
                  have hfz29_2 := blk_frozen BK114.out 2
                  go_wp2_with (first | ((with_reducible refine gate_callee (f := 19) rfl ?_); refine goesL_ (some 51) rfl rfl Tryd.func19 (by kernel_rfl) rfl #[.pointer (some ⟨g118, 0, none⟩), .bool a2_2] rfl (by (try simp only [List.map_toArray, List.map_cons, List.map_nil]); first | done | rfl | (simp only [List.length_drop, List.length_take]; rfl)) ?_; (with_reducible refine (octet_Reader_Word32.callsR g118 t115 x119001_1 x119002_1 a2_2 t127 t128 t129 w _ ?side1 ?side2 A27.out).mono ?_); (case side1 => repeat (first | (with_reducible first | exact HI118.out | apply IsR.alloc | apply IsR.drewN | apply IsR.drew | apply IsR.set_1 | apply IsR.set_2 | refine IsR.far ?_ NB118_114.out _) | exact HI118.out)); (case side2 => repeat (first | (with_reducible first | exact HB.out | apply below_alloc | apply pw_below_drewN | apply below_drew1 | refine below_set ?_ (IsR.ge HI118.out) | refine below_set ?_ GE114.out) | exact HB.out)); rintro e w30 ⟨rfl, hi, hb, hk⟩; refine ⟨_, rfl, ?_⟩; have n0_ := Aside0.mk (KeepBut.blk hk (g' := gb114) (o := .cells #[.int .i64 a2_0, .int .u64 a2_1, .bool a2_2] 43 (0, 0)) (by (with_reducible repeat (first | refine blk_drewN ?_ _ | refine blk_drew ?_ | refine blk_alloc ?_ _)); exact BK114.out) NB114_118.out (by simp)); have n1_ := Aside0.mk (hb); have n2_ := Aside0.mk (hi); clear BK114; clear HB; clear HI118; have BK114 := n0_; have HB := n1_; have HI118 := n2_; clear n0_ n1_ n2_; (try clear hb); (try clear hb2); (try clear hk); (try clear hi)))
                  go_meet
                  case rel => exact ⟨_, (IntKind.u64.wrap (t127)), (t128), (t129), (by first | rfl | (simp; done) | (simp [*]; done)), H', ⟨by have := HK1.out; have := HJ6.out; first | omega | exact Nat.le_refl _⟩, ⟨by (with_reducible repeat (first | refine blk_drewN ?_ _ | refine blk_drew ?_ | refine blk_alloc ?_ _)); exact BK114.out⟩, ⟨by repeat (first | (with_reducible first | exact HI118.out | apply IsR.alloc | apply IsR.drewN | apply IsR.drew | apply IsR.set_1 | apply IsR.set_2 | refine IsR.far ?_ NB118_114.out _) | exact HI118.out)⟩, ⟨by repeat (first | (with_reducible first | exact HB.out | apply below_alloc | apply pw_below_drewN | apply below_drew1 | refine below_set ?_ (IsR.ge HI118.out) | refine below_set ?_ GE114.out) | exact HB.out)⟩⟩
                · rw [if_neg c26] at H
                  have c26b0 : (t123 == 4) = false := beq_eq_false_iff_ne.mpr c26
                  have c26b1 : (t123 != 4) = true := bne_iff_ne.mpr c26
                  by_cases c31 : t123 = 8
                  · rw [if_pos c31] at H
                    have c31b0 : (t123 == 8) = true := beq_iff_eq.mpr c31
                    have c31b1 : (t123 != 8) = false := bne_eq_false_iff_eq.mpr c31
                    clear c31
                    replace H := Option.bind_eq_some_iff.mp H
                    obtain ⟨⟨t130, t131, t132⟩, A320, H⟩ := H
                    replace H : (plumblaw16_OctetShort.j2 kj6 x8_1 t123 (wrap64 ((l0.length : Int) - x8_1)) t130 t115 t131 t132) = some r := H
                    have A32 := Aside0.mk A320
                    clear A320
                    have H' := Aside0.mk H
                    clear H
                    have hnb33 := NB114_118.out
                    have hnc33 := NB118_114.out
                    have hcz34_0 : w22.cell? ⟨gb114, 0, none⟩ = some (.int .i64 a2_0) := (blk_cell BK114.out 0).trans rfl
                    have hcz34_1 : w22.cell? ⟨gb114, 1, none⟩ = some (.int .u64 a2_1) := (blk_cell BK114.out 1).trans rfl
                    have hcz34_2 : w22.cell? ⟨gb114, 2, none⟩ = some (.bool a2_2) := (blk_cell BK114.out 2).trans rfl
                    have hfz34_0 := blk_frozen BK114.out 0
                    have hfz34_1 := blk_frozen BK114.out 1
                    have hfz34_2 := blk_frozen BK114.out 2
                    go_wp2_with (first | ((with_reducible refine gate_callee (f := 20) rfl ?_); refine goesL_ (some 58) rfl rfl Tryd.func20 (by kernel_rfl) rfl #[.pointer (some ⟨g118, 0, none⟩), .bool a2_2] rfl (by (try simp only [List.map_toArray, List.map_cons, List.map_nil]); first | done | rfl | (simp only [List.length_drop, List.length_take]; rfl)) ?_; (with_reducible refine (octet_Reader_Word64.callsR g118 t115 x119001_1 x119002_1 a2_2 t130 t131 t132 w _ ?side1 ?side2 A32.out).mono ?_); (case side1 => repeat (first | (with_reducible first | exact HI118.out | apply IsR.alloc | apply IsR.drewN | apply IsR.drew | apply IsR.set_1 | apply IsR.set_2 | refine IsR.far ?_ NB118_114.out _) | exact HI118.out)); (case side2 => repeat (first | (with_reducible first | exact HB.out | apply below_alloc | apply pw_below_drewN | apply below_drew1 | refine below_set ?_ (IsR.ge HI118.out) | refine below_set ?_ GE114.out) | exact HB.out)); rintro e w35 ⟨rfl, hi, hb, hk⟩; refine ⟨_, rfl, ?_⟩; have n0_ := Aside0.mk (KeepBut.blk hk (g' := gb114) (o := .cells #[.int .i64 a2_0, .int .u64 a2_1, .bool a2_2] 43 (0, 0)) (by (with_reducible repeat (first | refine blk_drewN ?_ _ | refine blk_drew ?_ | refine blk_alloc ?_ _)); exact BK114.out) NB114_118.out (by simp)); have n1_ := Aside0.mk (hb); have n2_ := Aside0.mk (hi); clear BK114; clear HB; clear HI118; have BK114 := n0_; have HB := n1_; have HI118 := n2_; clear n0_ n1_ n2_; (try clear hb); (try clear hb2); (try clear hk); (try clear hi)))
                    go_meet
                    case rel => exact ⟨_, (t130), (t131), (t132), (by first | rfl | (simp; done) | (simp [*]; done)), H', ⟨by have := HK1.out; have := HJ6.out; first | omega | exact Nat.le_refl _⟩, ⟨by (with_reducible repeat (first | refine blk_drewN ?_ _ | refine blk_drew ?_ | refine blk_alloc ?_ _)); exact BK114.out⟩, ⟨by repeat (first | (with_reducible first | exact HI118.out | apply IsR.alloc | apply IsR.drewN | apply IsR.drew | apply IsR.set_1 | apply IsR.set_2 | refine IsR.far ?_ NB118_114.out _) | exact HI118.out)⟩, ⟨by repeat (first | (with_reducible first | exact HB.out | apply below_alloc | apply pw_below_drewN | apply below_drew1 | refine below_set ?_ (IsR.ge HI118.out) | refine below_set ?_ GE114.out) | exact HB.out)⟩⟩
                  · rw [if_neg c31] at H
                    have c31b0 : (t123 == 8) = false := beq_eq_false_iff_ne.mpr c31
                    have c31b1 : (t123 != 8) = true := bne_iff_ne.mpr c31
                    have H' := Aside0.mk H
                    clear H
                    go_wp2
                    go_meet
                    case rel => exact ⟨_, (1), (x119001_1), (x119002_1), (by first | rfl | (simp; done) | (simp [*]; done)), H', ⟨by have := HK1.out; have := HJ6.out; first | omega | exact Nat.le_refl _⟩, ⟨by (with_reducible repeat (first | refine blk_drewN ?_ _ | refine blk_drew ?_ | refine blk_alloc ?_ _)); exact BK114.out⟩, ⟨by repeat (first | (with_reducible first | exact HI118.out | apply IsR.alloc | apply IsR.drewN | apply IsR.drew | apply IsR.set_1 | apply IsR.set_2 | refine IsR.far ?_ NB118_114.out _) | exact HI118.out)⟩, ⟨by repeat (first | (with_reducible first | exact HB.out | apply below_alloc | apply pw_below_drewN | apply below_drew1 | refine below_set ?_ (IsR.ge HI118.out) | refine below_set ?_ GE114.out) | exact HB.out)⟩⟩
            case rest =>
              clear HC19
              try clear c1
              try clear p1
              try clear q1
              try clear hx1
              try clear c2
              try clear p2
              try clear c3
              try clear c4
              try clear p6
              try clear c8
              try clear c8b0
              try clear c9
              try clear c11
              try clear c11b0
              try clear c12
              try clear c12b0
              try clear p12
              try clear q12
              try clear hx12
              try clear c13
              try clear c13b0
              try clear c13b1
              try clear c17
              try clear c18
              try clear c19
              try clear c20
              try clear c23
              try clear c23b0
              try clear c23b1
              try clear c26
              try clear c26b0
              try clear c26b1
              try clear c28
              try clear c31
              try clear c31b0
              try clear c31b1
              try clear c33
              try clear hcz21_0
              try clear hcz21_1
              try clear hcz21_2
              try clear hcz29_0
              try clear hcz29_1
              try clear hcz29_2
              try clear hcz34_0
              try clear hcz34_1
              try clear hcz34_2
              try clear hfz21_0
              try clear hfz21_1
              try clear hfz21_2
              try clear hfz29_0
              try clear hfz29_1
              try clear hfz29_2
              try clear hfz34_0
              try clear hfz34_1
              try clear hfz34_2
              try clear hx122_0
              try clear p122
              try clear p2
              try clear q122
              obtain ⟨kq, x11_18, x119001_18, x119002_18, rfl, HA, HJ18, BK114, HI118, HB⟩ := hcut
              cases kq with
              | zero => exact absurd HA.out (by simp [plumblaw16_OctetShort.j2])
              | succ kj18 =>
                have H := HA.out
                clear HA
                simp only [plumblaw16_OctetShort.j2] at H
                by_cases c36 : (wrap64 ((l0.length : Int) - x8_1)) ≥ t123
                · rw [if_pos c36] at H
                  have c36b0 : decide (t123 ≤ (wrap64 ((l0.length : Int) - x8_1))) = true := decide_eq_true c36
                  clear c36
                  replace H := Option.bind_eq_some_iff.mp H
                  obtain ⟨⟨t133, t134, t135⟩, A370, H⟩ := H
                  replace H : (if t133.isNone = true then ((octet_Reader_At.f t115 t134 t135).bind fun bt137 => (if bt137.1 = (wrap64 (x8_1 + t123)) then ((octet_Reader_Left.f t115 bt137.2.1 bt137.2.2).bind fun bt140 => (some (bt140.1 == (wrap64 ((wrap64 ((l0.length : Int) - x8_1)) - t123))))) else (some false))) else (some false)) = some r := H
                  have A37 := Aside0.mk A370
                  clear A370
                  rcases t133 with _ | q136
                  · have H1 : ((octet_Reader_At.f t115 t134 t135).bind fun bt137 => (if bt137.1 = (wrap64 (x8_1 + t123)) then ((octet_Reader_Left.f t115 bt137.2.1 bt137.2.2).bind fun bt140 => (some (bt140.1 == (wrap64 ((wrap64 ((l0.length : Int) - x8_1)) - t123))))) else (some false))) = some r := by rw [if_pos (show (none : Option Int).isNone = true by rfl)] at H; exact H
                    clear H
                    have H := H1
                    clear H1
                    first | (have hz_ : ev_ = .nilIface := HEV.out; subst hz_) | (obtain ⟨gE_, hz_, _, _⟩ := HEV.out; subst hz_) | skip
                    replace H := Option.bind_eq_some_iff.mp H
                    obtain ⟨⟨t137, t138, t139⟩, A380, H⟩ := H
                    replace H : (if t137 = (wrap64 (x8_1 + t123)) then ((octet_Reader_Left.f t115 t138 t139).bind fun bt140 => (some (bt140.1 == (wrap64 ((wrap64 ((l0.length : Int) - x8_1)) - t123))))) else (some false)) = some r := H
                    have A38 := Aside0.mk A380
                    clear A380
                    by_cases c39 : t137 = (wrap64 (x8_1 + t123))
                    · rw [if_pos c39] at H
                      have c39b0 : (t137 == (wrap64 (x8_1 + t123))) = true := beq_iff_eq.mpr c39
                      have c39b1 : (t137 != (wrap64 (x8_1 + t123))) = false := bne_eq_false_iff_eq.mpr c39
                      clear c39
                      replace H := Option.bind_eq_some_iff.mp H
                      obtain ⟨⟨t140, t141, t142⟩, A400, H⟩ := H
                      replace H : (some (t140 == (wrap64 ((wrap64 ((l0.length : Int) - x8_1)) - t123)))) = some r := H
                      have A40 := Aside0.mk A400
                      clear A400
                      obtain rfl := Option.some.inj H
                      go_wp2_with (first | ((with_reducible refine gate_callee (f := 16) rfl ?_); refine goesL_ (some 63) rfl rfl Tryd.func16 (by kernel_rfl) rfl #[.pointer (some ⟨g118, 0, none⟩)] rfl (by (try simp only [List.map_toArray, List.map_cons, List.map_nil]); first | done | rfl | (simp only [List.length_drop, List.length_take]; rfl)) ?_; (with_reducible refine (octet_Reader_Err.callsR g118 t115 x119001_18 x119002_18 none t134 t135 w _ ?side1 ?side2 A37.out).mono ?_); (case side1 => repeat (first | (with_reducible first | exact HI118.out | apply IsR.alloc | apply IsR.drewN | apply IsR.drew | apply IsR.set_1 | apply IsR.set_2 | refine IsR.far ?_ NB118_114.out _) | exact HI118.out)); (case side2 => repeat (first | (with_reducible first | exact HB.out | apply below_alloc | apply pw_below_drewN | apply below_drew1 | refine below_set ?_ (IsR.ge HI118.out) | refine below_set ?_ GE114.out) | exact HB.out)); rintro e w41 ⟨ev_, rfl, hev_, hi, hb, hk⟩; refine ⟨_, rfl, ?_⟩; (try clear HEV); have HEV := Aside0.mk hev_; clear hev_; (try (have hz_ : ev_ = .nilIface := HEV.out; subst hz_)); (try (obtain ⟨gE_, hz_, _, _⟩ := HEV.out; subst hz_)); have n0_ := Aside0.mk (KeepBut.blk hk (g' := gb114) (o := .cells #[.int .i64 a2_0, .int .u64 a2_1, .bool a2_2] 43 (0, 0)) (by (with_reducible repeat (first | refine blk_drewN ?_ _ | refine blk_drew ?_ | refine blk_alloc ?_ _)); exact BK114.out) NB114_118.out (by simp)); have n1_ := Aside0.mk (hb); have n2_ := Aside0.mk (hi); clear BK114; clear HB; clear HI118; have BK114 := n0_; have HB := n1_; have HI118 := n2_; clear n0_ n1_ n2_; (try clear hb); (try clear hb2); (try clear hk); (try clear hi); (try simp only [errW_none, errW_some])) | (go_at_call 13; (with_reducible refine (octet_Reader_At.callsR g118 t115 t134 t135 t137 t138 t139 w _ ?side1 ?side2 A38.out).mono ?_); (case side1 => repeat (first | (with_reducible first | exact HI118.out | apply IsR.alloc | apply IsR.drewN | apply IsR.drew | apply IsR.set_1 | apply IsR.set_2 | refine IsR.far ?_ NB118_114.out _) | exact HI118.out)); (case side2 => repeat (first | (with_reducible first | exact HB.out | apply below_alloc | apply pw_below_drewN | apply below_drew1 | refine below_set ?_ (IsR.ge HI118.out) | refine below_set ?_ GE114.out) | exact HB.out)); rintro e w42 ⟨rfl, hi, hb, hk⟩; have n0_ := Aside0.mk (KeepBut.blk hk (g' := gb114) (o := .cells #[.int .i64 a2_0, .int .u64 a2_1, .bool a2_2] 43 (0, 0)) (by (with_reducible repeat (first | refine blk_drewN ?_ _ | refine blk_drew ?_ | refine blk_alloc ?_ _)); exact BK114.out) NB114_118.out (by simp)); have n1_ := Aside0.mk (hb); have n2_ := Aside0.mk (hi); clear BK114; clear HB; clear HI118; have BK114 := n0_; have HB := n1_; have HI118 := n2_; clear n0_ n1_ n2_; (try clear hb); (try clear hb2); (try clear hk); (try clear hi)) | (go_at_call 14; (with_reducible refine (octet_Reader_Left.callsR g118 t115 t138 t139 t140 t141 t142 w _ ?side1 ?side2 A40.out).mono ?_); (case side1 => repeat (first | (with_reducible first | exact HI118.out | apply IsR.alloc | apply IsR.drewN | apply IsR.drew | apply IsR.set_1 | apply IsR.set_2 | refine IsR.far ?_ NB118_114.out _) | exact HI118.out)); (case side2 => repeat (first | (with_reducible first | exact HB.out | apply below_alloc | apply pw_below_drewN | apply below_drew1 | refine below_set ?_ (IsR.ge HI118.out) | refine below_set ?_ GE114.out) | exact HB.out)); rintro e w43 ⟨rfl, hi, hb, hk⟩; have n0_ := Aside0.mk (KeepBut.blk hk (g' := gb114) (o := .cells #[.int .i64 a2_0, .int .u64 a2_1, .bool a2_2] 43 (0, 0)) (by (with_reducible repeat (first | refine blk_drewN ?_ _ | refine blk_drew ?_ | refine blk_alloc ?_ _)); exact BK114.out) NB114_118.out (by simp)); have n1_ := Aside0.mk (hb); have n2_ := Aside0.mk (hi); clear BK114; clear HB; clear HI118; have BK114 := n0_; have HB := n1_; have HI118 := n2_; clear n0_ n1_ n2_; (try clear hb); (try clear hb2); (try clear hk); (try clear hi)))
                      go_ret
                      exact ⟨by first | rfl | (simp [errW_none, errW_some] <;> rfl) | (simp [*, errW_none, errW_some] <;> rfl), by repeat (first | (with_reducible first | exact HB.out | apply below_alloc | apply pw_below_drewN | apply below_drew1 | refine below_set ?_ (IsR.ge HI118.out) | refine below_set ?_ GE114.out) | exact HB.out)⟩
                    · rw [if_neg c39] at H
                      have c39b0 : (t137 == (wrap64 (x8_1 + t123))) = false := beq_eq_false_iff_ne.mpr c39
                      have c39b1 : (t137 != (wrap64 (x8_1 + t123))) = true := bne_iff_ne.mpr c39
                      obtain rfl := Option.some.inj H
                      go_wp2_with (first | ((with_reducible refine gate_callee (f := 16) rfl ?_); refine goesL_ (some 63) rfl rfl Tryd.func16 (by kernel_rfl) rfl #[.pointer (some ⟨g118, 0, none⟩)] rfl (by (try simp only [List.map_toArray, List.map_cons, List.map_nil]); first | done | rfl | (simp only [List.length_drop, List.length_take]; rfl)) ?_; (with_reducible refine (octet_Reader_Err.callsR g118 t115 x119001_18 x119002_18 none t134 t135 w _ ?side1 ?side2 A37.out).mono ?_); (case side1 => repeat (first | (with_reducible first | exact HI118.out | apply IsR.alloc | apply IsR.drewN | apply IsR.drew | apply IsR.set_1 | apply IsR.set_2 | refine IsR.far ?_ NB118_114.out _) | exact HI118.out)); (case side2 => repeat (first | (with_reducible first | exact HB.out | apply below_alloc | apply pw_below_drewN | apply below_drew1 | refine below_set ?_ (IsR.ge HI118.out) | refine below_set ?_ GE114.out) | exact HB.out)); rintro e w44 ⟨ev_, rfl, hev_, hi, hb, hk⟩; refine ⟨_, rfl, ?_⟩; (try clear HEV); have HEV := Aside0.mk hev_; clear hev_; (try (have hz_ : ev_ = .nilIface := HEV.out; subst hz_)); (try (obtain ⟨gE_, hz_, _, _⟩ := HEV.out; subst hz_)); have n0_ := Aside0.mk (KeepBut.blk hk (g' := gb114) (o := .cells #[.int .i64 a2_0, .int .u64 a2_1, .bool a2_2] 43 (0, 0)) (by (with_reducible repeat (first | refine blk_drewN ?_ _ | refine blk_drew ?_ | refine blk_alloc ?_ _)); exact BK114.out) NB114_118.out (by simp)); have n1_ := Aside0.mk (hb); have n2_ := Aside0.mk (hi); clear BK114; clear HB; clear HI118; have BK114 := n0_; have HB := n1_; have HI118 := n2_; clear n0_ n1_ n2_; (try clear hb); (try clear hb2); (try clear hk); (try clear hi); (try simp only [errW_none, errW_some])) | (go_at_call 13; (with_reducible refine (octet_Reader_At.callsR g118 t115 t134 t135 t137 t138 t139 w _ ?side1 ?side2 A38.out).mono ?_); (case side1 => repeat (first | (with_reducible first | exact HI118.out | apply IsR.alloc | apply IsR.drewN | apply IsR.drew | apply IsR.set_1 | apply IsR.set_2 | refine IsR.far ?_ NB118_114.out _) | exact HI118.out)); (case side2 => repeat (first | (with_reducible first | exact HB.out | apply below_alloc | apply pw_below_drewN | apply below_drew1 | refine below_set ?_ (IsR.ge HI118.out) | refine below_set ?_ GE114.out) | exact HB.out)); rintro e w45 ⟨rfl, hi, hb, hk⟩; have n0_ := Aside0.mk (KeepBut.blk hk (g' := gb114) (o := .cells #[.int .i64 a2_0, .int .u64 a2_1, .bool a2_2] 43 (0, 0)) (by (with_reducible repeat (first | refine blk_drewN ?_ _ | refine blk_drew ?_ | refine blk_alloc ?_ _)); exact BK114.out) NB114_118.out (by simp)); have n1_ := Aside0.mk (hb); have n2_ := Aside0.mk (hi); clear BK114; clear HB; clear HI118; have BK114 := n0_; have HB := n1_; have HI118 := n2_; clear n0_ n1_ n2_; (try clear hb); (try clear hb2); (try clear hk); (try clear hi)))
                      go_ret
                      exact ⟨by first | rfl | (simp [errW_none, errW_some] <;> rfl) | (simp [*, errW_none, errW_some] <;> rfl), by repeat (first | (with_reducible first | exact HB.out | apply below_alloc | apply pw_below_drewN | apply below_drew1 | refine below_set ?_ (IsR.ge HI118.out) | refine below_set ?_ GE114.out) | exact HB.out)⟩
                  · have H1 : (some false) = some r := by rw [if_neg (show ¬ (some q136).isNone = true by simp)] at H; exact H
                    clear H
                    have H := H1
                    clear H1
                    first | (have hz_ : ev_ = .nilIface := HEV.out; subst hz_) | (obtain ⟨gE_, hz_, _, _⟩ := HEV.out; subst hz_) | skip
                    obtain rfl := Option.some.inj H
                    go_wp2_with (first | ((with_reducible refine gate_callee (f := 16) rfl ?_); refine goesL_ (some 63) rfl rfl Tryd.func16 (by kernel_rfl) rfl #[.pointer (some ⟨g118, 0, none⟩)] rfl (by (try simp only [List.map_toArray, List.map_cons, List.map_nil]); first | done | rfl | (simp only [List.length_drop, List.length_take]; rfl)) ?_; (with_reducible refine (octet_Reader_Err.callsR g118 t115 x119001_18 x119002_18 (some q136) t134 t135 w _ ?side1 ?side2 A37.out).mono ?_); (case side1 => repeat (first | (with_reducible first | exact HI118.out | apply IsR.alloc | apply IsR.drewN | apply IsR.drew | apply IsR.set_1 | apply IsR.set_2 | refine IsR.far ?_ NB118_114.out _) | exact HI118.out)); (case side2 => repeat (first | (with_reducible first | exact HB.out | apply below_alloc | apply pw_below_drewN | apply below_drew1 | refine below_set ?_ (IsR.ge HI118.out) | refine below_set ?_ GE114.out) | exact HB.out)); rintro e w46 ⟨ev_, rfl, hev_, hi, hb, hk⟩; refine ⟨_, rfl, ?_⟩; (try clear HEV); have HEV := Aside0.mk hev_; clear hev_; (try (have hz_ : ev_ = .nilIface := HEV.out; subst hz_)); (try (obtain ⟨gE_, hz_, _, _⟩ := HEV.out; subst hz_)); have n0_ := Aside0.mk (KeepBut.blk hk (g' := gb114) (o := .cells #[.int .i64 a2_0, .int .u64 a2_1, .bool a2_2] 43 (0, 0)) (by (with_reducible repeat (first | refine blk_drewN ?_ _ | refine blk_drew ?_ | refine blk_alloc ?_ _)); exact BK114.out) NB114_118.out (by simp)); have n1_ := Aside0.mk (hb); have n2_ := Aside0.mk (hi); clear BK114; clear HB; clear HI118; have BK114 := n0_; have HB := n1_; have HI118 := n2_; clear n0_ n1_ n2_; (try clear hb); (try clear hb2); (try clear hk); (try clear hi); (try simp only [errW_none, errW_some])))
                    go_ret
                    exact ⟨by first | rfl | (simp [errW_none, errW_some] <;> rfl) | (simp [*, errW_none, errW_some] <;> rfl), by repeat (first | (with_reducible first | exact HB.out | apply below_alloc | apply pw_below_drewN | apply below_drew1 | refine below_set ?_ (IsR.ge HI118.out) | refine below_set ?_ GE114.out) | exact HB.out)⟩
                · rw [if_neg c36] at H
                  have c36b0 : decide (t123 ≤ (wrap64 ((l0.length : Int) - x8_1))) = false := decide_eq_false c36
                  clear c36
                  by_cases c47 : x11_18 = 0
                  · rw [if_pos c47] at H
                    have c47b0 : (x11_18 == 0) = true := beq_iff_eq.mpr c47
                    have c47b1 : (x11_18 != 0) = false := bne_eq_false_iff_eq.mpr c47
                    clear c47
                    replace H := Option.bind_eq_some_iff.mp H
                    obtain ⟨⟨t143, t144, t145⟩, A480, H⟩ := H
                    replace H : ((plumblaw16_sameErr.f t143 160 x8_1).bind fun t146 => (if t146 = true then ((octet_Reader_At.f t115 t144 t145).bind fun bt147 => (if bt147.1 = x8_1 then ((octet_Reader_Left.f t115 bt147.2.1 bt147.2.2).bind fun bt150 => (if bt150.1 = (wrap64 ((l0.length : Int) - x8_1)) then ((octet_Reader_Byte.f t115 bt150.2.1 bt150.2.2).bind fun bt153 => (if bt153.1 = 0 then ((octet_Reader_Word32.f t115 bt153.2.1 bt153.2.2 true).bind fun bt156 => (if bt156.1 = 0 then ((octet_Reader_At.f t115 bt156.2.1 bt156.2.2).bind fun bt159 => (if bt159.1 = x8_1 then ((octet_Reader_Err.f t115 bt159.2.1 bt159.2.2).bind fun bt162 => ((plumblaw16_sameErr.f bt162.1 160 x8_1).bind fun t165 => (some t165))) else (some false))) else (some false))) else (some false))) else (some false))) else (some false))) else (some false))) = some r := H
                    have A48 := Aside0.mk A480
                    clear A480
                    replace H := Option.bind_eq_some_iff.mp H
                    obtain ⟨t146, A490, H⟩ := H
                    replace H : (if t146 = true then ((octet_Reader_At.f t115 t144 t145).bind fun bt147 => (if bt147.1 = x8_1 then ((octet_Reader_Left.f t115 bt147.2.1 bt147.2.2).bind fun bt150 => (if bt150.1 = (wrap64 ((l0.length : Int) - x8_1)) then ((octet_Reader_Byte.f t115 bt150.2.1 bt150.2.2).bind fun bt153 => (if bt153.1 = 0 then ((octet_Reader_Word32.f t115 bt153.2.1 bt153.2.2 true).bind fun bt156 => (if bt156.1 = 0 then ((octet_Reader_At.f t115 bt156.2.1 bt156.2.2).bind fun bt159 => (if bt159.1 = x8_1 then ((octet_Reader_Err.f t115 bt159.2.1 bt159.2.2).bind fun bt162 => ((plumblaw16_sameErr.f bt162.1 160 x8_1).bind fun t165 => (some t165))) else (some false))) else (some false))) else (some false))) else (some false))) else (some false))) else (some false)) = some r := H
                    have A49 := Aside0.mk A490
                    clear A490
                    by_cases c50 : t146 = true
                    · subst c50
                      have H1 : ((octet_Reader_At.f t115 t144 t145).bind fun bt147 => (if bt147.1 = x8_1 then ((octet_Reader_Left.f t115 bt147.2.1 bt147.2.2).bind fun bt150 => (if bt150.1 = (wrap64 ((l0.length : Int) - x8_1)) then ((octet_Reader_Byte.f t115 bt150.2.1 bt150.2.2).bind fun bt153 => (if bt153.1 = 0 then ((octet_Reader_Word32.f t115 bt153.2.1 bt153.2.2 true).bind fun bt156 => (if bt156.1 = 0 then ((octet_Reader_At.f t115 bt156.2.1 bt156.2.2).bind fun bt159 => (if bt159.1 = x8_1 then ((octet_Reader_Err.f t115 bt159.2.1 bt159.2.2).bind fun bt162 => ((plumblaw16_sameErr.f bt162.1 160 x8_1).bind fun t165 => (some t165))) else (some false))) else (some false))) else (some false))) else (some false))) else (some false))) = some r := by rw [if_pos rfl] at H; exact H
                      clear H
                      have H := H1
                      clear H1
                      replace H := Option.bind_eq_some_iff.mp H
                      obtain ⟨⟨t147, t148, t149⟩, A510, H⟩ := H
                      replace H : (if t147 = x8_1 then ((octet_Reader_Left.f t115 t148 t149).bind fun bt150 => (if bt150.1 = (wrap64 ((l0.length : Int) - x8_1)) then ((octet_Reader_Byte.f t115 bt150.2.1 bt150.2.2).bind fun bt153 => (if bt153.1 = 0 then ((octet_Reader_Word32.f t115 bt153.2.1 bt153.2.2 true).bind fun bt156 => (if bt156.1 = 0 then ((octet_Reader_At.f t115 bt156.2.1 bt156.2.2).bind fun bt159 => (if bt159.1 = x8_1 then ((octet_Reader_Err.f t115 bt159.2.1 bt159.2.2).bind fun bt162 => ((plumblaw16_sameErr.f bt162.1 160 x8_1).bind fun t165 => (some t165))) else (some false))) else (some false))) else (some false))) else (some false))) else (some false)) = some r := H
                      have A51 := Aside0.mk A510
                      clear A510
                      by_cases c52 : t147 = x8_1
                      · rw [if_pos c52] at H
                        have c52b0 : (t147 == x8_1) = true := beq_iff_eq.mpr c52
                        have c52b1 : (t147 != x8_1) = false := bne_eq_false_iff_eq.mpr c52
                        clear c52
                        replace H := Option.bind_eq_some_iff.mp H
                        obtain ⟨⟨t150, t151, t152⟩, A530, H⟩ := H
                        replace H : (if t150 = (wrap64 ((l0.length : Int) - x8_1)) then ((octet_Reader_Byte.f t115 t151 t152).bind fun bt153 => (if bt153.1 = 0 then ((octet_Reader_Word32.f t115 bt153.2.1 bt153.2.2 true).bind fun bt156 => (if bt156.1 = 0 then ((octet_Reader_At.f t115 bt156.2.1 bt156.2.2).bind fun bt159 => (if bt159.1 = x8_1 then ((octet_Reader_Err.f t115 bt159.2.1 bt159.2.2).bind fun bt162 => ((plumblaw16_sameErr.f bt162.1 160 x8_1).bind fun t165 => (some t165))) else (some false))) else (some false))) else (some false))) else (some false)) = some r := H
                        have A53 := Aside0.mk A530
                        clear A530
                        by_cases c54 : t150 = (wrap64 ((l0.length : Int) - x8_1))
                        · rw [if_pos c54] at H
                          have c54b0 : (t150 == (wrap64 ((l0.length : Int) - x8_1))) = true := beq_iff_eq.mpr c54
                          have c54b1 : (t150 != (wrap64 ((l0.length : Int) - x8_1))) = false := bne_eq_false_iff_eq.mpr c54
                          clear c54
                          replace H := Option.bind_eq_some_iff.mp H
                          obtain ⟨⟨t153, t154, t155⟩, A550, H⟩ := H
                          replace H : (if t153 = 0 then ((octet_Reader_Word32.f t115 t154 t155 true).bind fun bt156 => (if bt156.1 = 0 then ((octet_Reader_At.f t115 bt156.2.1 bt156.2.2).bind fun bt159 => (if bt159.1 = x8_1 then ((octet_Reader_Err.f t115 bt159.2.1 bt159.2.2).bind fun bt162 => ((plumblaw16_sameErr.f bt162.1 160 x8_1).bind fun t165 => (some t165))) else (some false))) else (some false))) else (some false)) = some r := H
                          have A55 := Aside0.mk A550
                          clear A550
                          by_cases c56 : t153 = 0
                          · rw [if_pos c56] at H
                            have c56b0 : (t153 == 0) = true := beq_iff_eq.mpr c56
                            have c56b1 : (t153 != 0) = false := bne_eq_false_iff_eq.mpr c56
                            clear c56
                            replace H := Option.bind_eq_some_iff.mp H
                            obtain ⟨⟨t156, t157, t158⟩, A570, H⟩ := H
                            replace H : (if t156 = 0 then ((octet_Reader_At.f t115 t157 t158).bind fun bt159 => (if bt159.1 = x8_1 then ((octet_Reader_Err.f t115 bt159.2.1 bt159.2.2).bind fun bt162 => ((plumblaw16_sameErr.f bt162.1 160 x8_1).bind fun t165 => (some t165))) else (some false))) else (some false)) = some r := H
                            have A57 := Aside0.mk A570
                            clear A570
                            by_cases c58 : t156 = 0
                            · rw [if_pos c58] at H
                              have c58b0 : (t156 == 0) = true := beq_iff_eq.mpr c58
                              have c58b1 : (t156 != 0) = false := bne_eq_false_iff_eq.mpr c58
                              clear c58
                              replace H := Option.bind_eq_some_iff.mp H
                              obtain ⟨⟨t159, t160, t161⟩, A590, H⟩ := H
                              replace H : (if t159 = x8_1 then ((octet_Reader_Err.f t115 t160 t161).bind fun bt162 => ((plumblaw16_sameErr.f bt162.1 160 x8_1).bind fun t165 => (some t165))) else (some false)) = some r := H
                              have A59 := Aside0.mk A590
                              clear A590
                              by_cases c60 : t159 = x8_1
                              · rw [if_pos c60] at H
                                have c60b0 : (t159 == x8_1) = true := beq_iff_eq.mpr c60
                                have c60b1 : (t159 != x8_1) = false := bne_eq_false_iff_eq.mpr c60
                                clear c60
                                replace H := Option.bind_eq_some_iff.mp H
                                obtain ⟨⟨t162, t163, t164⟩, A610, H⟩ := H
                                replace H : ((plumblaw16_sameErr.f t162 160 x8_1).bind fun t165 => (some t165)) = some r := H
                                have A61 := Aside0.mk A610
                                clear A610
                                replace H := Option.bind_eq_some_iff.mp H
                                obtain ⟨t165, A620, H⟩ := H
                                replace H : (some t165) = some r := H
                                have A62 := Aside0.mk A620
                                clear A620
                                obtain rfl := Option.some.inj H
                                go_wp2_with (first | (go_at_call 16; (with_reducible refine (octet_Reader_Err.callsR g118 t115 x119001_18 x119002_18 t143 t144 t145 w _ ?side1 ?side2 A48.out).mono ?_); (case side1 => repeat (first | (with_reducible first | exact HI118.out | apply IsR.alloc | apply IsR.drewN | apply IsR.drew | apply IsR.set_1 | apply IsR.set_2 | refine IsR.far ?_ NB118_114.out _) | exact HI118.out)); (case side2 => repeat (first | (with_reducible first | exact HB.out | apply below_alloc | apply pw_below_drewN | apply below_drew1 | refine below_set ?_ (IsR.ge HI118.out) | refine below_set ?_ GE114.out) | exact HB.out)); rintro e w63 ⟨ev_, rfl, hev_, hi, hb, hk⟩; (try clear HEV); have HEV := Aside0.mk hev_; clear hev_; (try (have hz_ : ev_ = .nilIface := HEV.out; subst hz_)); (try (obtain ⟨gE_, hz_, _, _⟩ := HEV.out; subst hz_)); have n0_ := Aside0.mk (KeepBut.blk hk (g' := gb114) (o := .cells #[.int .i64 a2_0, .int .u64 a2_1, .bool a2_2] 43 (0, 0)) (by (with_reducible repeat (first | refine blk_drewN ?_ _ | refine blk_drew ?_ | refine blk_alloc ?_ _)); exact BK114.out) NB114_118.out (by simp)); have n1_ := Aside0.mk (hb); have n2_ := Aside0.mk (hi); clear BK114; clear HB; clear HI118; have BK114 := n0_; have HB := n1_; have HI118 := n2_; clear n0_ n1_ n2_; (try clear hb); (try clear hb2); (try clear hk); (try clear hi); (try simp only [errW_none, errW_some]); have CA49 := fun W hg hv => plumblaw16_sameErr.calls ev_ t143 160 x8_1 true W hg hv A49.out; try simp only [errW_none, errW_some] at CA49) | (go_at_call 15; (with_reducible refine (CA49 _ ?hhg ?hhv).mono ?_); (case hhg => exact Handle_below HHG.out (by repeat (first | (with_reducible first | exact HB.out | apply below_alloc | apply pw_below_drewN | apply below_drew1) | exact HB.out))); (case hhv => exact (by first | exact HEV.out | exact EV_drewN HEV.out _ | exact EV_alloc HEV.out _ | exact EV_drew HEV.out)); rintro e w64 ⟨rfl, hb⟩; (try (have HEV2 := Aside0.mk (EV_below (by first | exact HEV.out | exact EV_drewN HEV.out _ | exact EV_alloc HEV.out _ | exact EV_drew HEV.out) hb); clear HEV; have HEV := HEV2; clear HEV2)); have n0_ := Aside0.mk (blk_below (g := gb114) (o := .cells #[.int .i64 a2_0, .int .u64 a2_1, .bool a2_2] 43 (0, 0)) (by (with_reducible repeat (first | refine blk_drewN ?_ _ | refine blk_drew ?_ | refine blk_alloc ?_ _)); exact BK114.out) hb); have n1_ := Aside0.mk (IsR.below (by repeat (first | (with_reducible first | exact HI118.out | apply IsR.alloc | apply IsR.drewN | apply IsR.drew | apply IsR.set_1 | apply IsR.set_2 | refine IsR.far ?_ NB118_114.out _) | exact HI118.out)) hb); have n2_ := Aside0.mk (below_step (by repeat (first | (with_reducible first | exact HB.out | apply below_alloc | apply pw_below_drewN | apply below_drew1 | refine below_set ?_ (IsR.ge HI118.out) | refine below_set ?_ GE114.out) | exact HB.out)) hb); clear BK114; clear HI118; clear HB; have BK114 := n0_; have HI118 := n1_; have HB := n2_; clear n0_ n1_ n2_; (try clear hb); (try clear hb2); (try clear hk); (try clear hi)) | (go_at_call 13; (with_reducible refine (octet_Reader_At.callsR g118 t115 t144 t145 t147 t148 t149 w _ ?side1 ?side2 A51.out).mono ?_); (case side1 => repeat (first | (with_reducible first | exact HI118.out | apply IsR.alloc | apply IsR.drewN | apply IsR.drew | apply IsR.set_1 | apply IsR.set_2 | refine IsR.far ?_ NB118_114.out _) | exact HI118.out)); (case side2 => repeat (first | (with_reducible first | exact HB.out | apply below_alloc | apply pw_below_drewN | apply below_drew1 | refine below_set ?_ (IsR.ge HI118.out) | refine below_set ?_ GE114.out) | exact HB.out)); rintro e w65 ⟨rfl, hi, hb, hk⟩; have n0_ := Aside0.mk (KeepBut.blk hk (g' := gb114) (o := .cells #[.int .i64 a2_0, .int .u64 a2_1, .bool a2_2] 43 (0, 0)) (by (with_reducible repeat (first | refine blk_drewN ?_ _ | refine blk_drew ?_ | refine blk_alloc ?_ _)); exact BK114.out) NB114_118.out (by simp)); have n1_ := Aside0.mk (hb); have n2_ := Aside0.mk (hi); clear BK114; clear HB; clear HI118; have BK114 := n0_; have HB := n1_; have HI118 := n2_; clear n0_ n1_ n2_; (try clear hb); (try clear hb2); (try clear hk); (try clear hi)) | (go_at_call 14; (with_reducible refine (octet_Reader_Left.callsR g118 t115 t148 t149 t150 t151 t152 w _ ?side1 ?side2 A53.out).mono ?_); (case side1 => repeat (first | (with_reducible first | exact HI118.out | apply IsR.alloc | apply IsR.drewN | apply IsR.drew | apply IsR.set_1 | apply IsR.set_2 | refine IsR.far ?_ NB118_114.out _) | exact HI118.out)); (case side2 => repeat (first | (with_reducible first | exact HB.out | apply below_alloc | apply pw_below_drewN | apply below_drew1 | refine below_set ?_ (IsR.ge HI118.out) | refine below_set ?_ GE114.out) | exact HB.out)); rintro e w66 ⟨rfl, hi, hb, hk⟩; have n0_ := Aside0.mk (KeepBut.blk hk (g' := gb114) (o := .cells #[.int .i64 a2_0, .int .u64 a2_1, .bool a2_2] 43 (0, 0)) (by (with_reducible repeat (first | refine blk_drewN ?_ _ | refine blk_drew ?_ | refine blk_alloc ?_ _)); exact BK114.out) NB114_118.out (by simp)); have n1_ := Aside0.mk (hb); have n2_ := Aside0.mk (hi); clear BK114; clear HB; clear HI118; have BK114 := n0_; have HB := n1_; have HI118 := n2_; clear n0_ n1_ n2_; (try clear hb); (try clear hb2); (try clear hk); (try clear hi)) | (go_at_call 17; (with_reducible refine (octet_Reader_Byte.callsR g118 t115 t151 t152 t153 t154 t155 w _ ?side1 ?side2 A55.out).mono ?_); (case side1 => repeat (first | (with_reducible first | exact HI118.out | apply IsR.alloc | apply IsR.drewN | apply IsR.drew | apply IsR.set_1 | apply IsR.set_2 | refine IsR.far ?_ NB118_114.out _) | exact HI118.out)); (case side2 => repeat (first | (with_reducible first | exact HB.out | apply below_alloc | apply pw_below_drewN | apply below_drew1 | refine below_set ?_ (IsR.ge HI118.out) | refine below_set ?_ GE114.out) | exact HB.out)); rintro e w67 ⟨rfl, hi, hb, hk⟩; have n0_ := Aside0.mk (KeepBut.blk hk (g' := gb114) (o := .cells #[.int .i64 a2_0, .int .u64 a2_1, .bool a2_2] 43 (0, 0)) (by (with_reducible repeat (first | refine blk_drewN ?_ _ | refine blk_drew ?_ | refine blk_alloc ?_ _)); exact BK114.out) NB114_118.out (by simp)); have n1_ := Aside0.mk (hb); have n2_ := Aside0.mk (hi); clear BK114; clear HB; clear HI118; have BK114 := n0_; have HB := n1_; have HI118 := n2_; clear n0_ n1_ n2_; (try clear hb); (try clear hb2); (try clear hk); (try clear hi)) | (go_at_call 19; (with_reducible refine (octet_Reader_Word32.callsR g118 t115 t154 t155 true t156 t157 t158 w _ ?side1 ?side2 A57.out).mono ?_); (case side1 => repeat (first | (with_reducible first | exact HI118.out | apply IsR.alloc | apply IsR.drewN | apply IsR.drew | apply IsR.set_1 | apply IsR.set_2 | refine IsR.far ?_ NB118_114.out _) | exact HI118.out)); (case side2 => repeat (first | (with_reducible first | exact HB.out | apply below_alloc | apply pw_below_drewN | apply below_drew1 | refine below_set ?_ (IsR.ge HI118.out) | refine below_set ?_ GE114.out) | exact HB.out)); rintro e w68 ⟨rfl, hi, hb, hk⟩; have n0_ := Aside0.mk (KeepBut.blk hk (g' := gb114) (o := .cells #[.int .i64 a2_0, .int .u64 a2_1, .bool a2_2] 43 (0, 0)) (by (with_reducible repeat (first | refine blk_drewN ?_ _ | refine blk_drew ?_ | refine blk_alloc ?_ _)); exact BK114.out) NB114_118.out (by simp)); have n1_ := Aside0.mk (hb); have n2_ := Aside0.mk (hi); clear BK114; clear HB; clear HI118; have BK114 := n0_; have HB := n1_; have HI118 := n2_; clear n0_ n1_ n2_; (try clear hb); (try clear hb2); (try clear hk); (try clear hi)) | (go_at_call 13; (with_reducible refine (octet_Reader_At.callsR g118 t115 t157 t158 t159 t160 t161 w _ ?side1 ?side2 A59.out).mono ?_); (case side1 => repeat (first | (with_reducible first | exact HI118.out | apply IsR.alloc | apply IsR.drewN | apply IsR.drew | apply IsR.set_1 | apply IsR.set_2 | refine IsR.far ?_ NB118_114.out _) | exact HI118.out)); (case side2 => repeat (first | (with_reducible first | exact HB.out | apply below_alloc | apply pw_below_drewN | apply below_drew1 | refine below_set ?_ (IsR.ge HI118.out) | refine below_set ?_ GE114.out) | exact HB.out)); rintro e w69 ⟨rfl, hi, hb, hk⟩; have n0_ := Aside0.mk (KeepBut.blk hk (g' := gb114) (o := .cells #[.int .i64 a2_0, .int .u64 a2_1, .bool a2_2] 43 (0, 0)) (by (with_reducible repeat (first | refine blk_drewN ?_ _ | refine blk_drew ?_ | refine blk_alloc ?_ _)); exact BK114.out) NB114_118.out (by simp)); have n1_ := Aside0.mk (hb); have n2_ := Aside0.mk (hi); clear BK114; clear HB; clear HI118; have BK114 := n0_; have HB := n1_; have HI118 := n2_; clear n0_ n1_ n2_; (try clear hb); (try clear hb2); (try clear hk); (try clear hi)) | (go_at_call 16; (with_reducible refine (octet_Reader_Err.callsR g118 t115 t160 t161 t162 t163 t164 w _ ?side1 ?side2 A61.out).mono ?_); (case side1 => repeat (first | (with_reducible first | exact HI118.out | apply IsR.alloc | apply IsR.drewN | apply IsR.drew | apply IsR.set_1 | apply IsR.set_2 | refine IsR.far ?_ NB118_114.out _) | exact HI118.out)); (case side2 => repeat (first | (with_reducible first | exact HB.out | apply below_alloc | apply pw_below_drewN | apply below_drew1 | refine below_set ?_ (IsR.ge HI118.out) | refine below_set ?_ GE114.out) | exact HB.out)); rintro e w70 ⟨ev_, rfl, hev_, hi, hb, hk⟩; (try clear HEV); have HEV := Aside0.mk hev_; clear hev_; (try (have hz_ : ev_ = .nilIface := HEV.out; subst hz_)); (try (obtain ⟨gE_, hz_, _, _⟩ := HEV.out; subst hz_)); have n0_ := Aside0.mk (KeepBut.blk hk (g' := gb114) (o := .cells #[.int .i64 a2_0, .int .u64 a2_1, .bool a2_2] 43 (0, 0)) (by (with_reducible repeat (first | refine blk_drewN ?_ _ | refine blk_drew ?_ | refine blk_alloc ?_ _)); exact BK114.out) NB114_118.out (by simp)); have n1_ := Aside0.mk (hb); have n2_ := Aside0.mk (hi); clear BK114; clear HB; clear HI118; have BK114 := n0_; have HB := n1_; have HI118 := n2_; clear n0_ n1_ n2_; (try clear hb); (try clear hb2); (try clear hk); (try clear hi); (try simp only [errW_none, errW_some]); have CA62 := fun W hg hv => plumblaw16_sameErr.calls ev_ t162 160 x8_1 t165 W hg hv A62.out; try simp only [errW_none, errW_some] at CA62) | (go_at_call 15; (with_reducible refine (CA62 _ ?hhg ?hhv).mono ?_); (case hhg => exact Handle_below HHG.out (by repeat (first | (with_reducible first | exact HB.out | apply below_alloc | apply pw_below_drewN | apply below_drew1) | exact HB.out))); (case hhv => exact (by first | exact HEV.out | exact EV_drewN HEV.out _ | exact EV_alloc HEV.out _ | exact EV_drew HEV.out)); rintro e w71 ⟨rfl, hb⟩; (try (have HEV2 := Aside0.mk (EV_below (by first | exact HEV.out | exact EV_drewN HEV.out _ | exact EV_alloc HEV.out _ | exact EV_drew HEV.out) hb); clear HEV; have HEV := HEV2; clear HEV2)); have n0_ := Aside0.mk (blk_below (g := gb114) (o := .cells #[.int .i64 a2_0, .int .u64 a2_1, .bool a2_2] 43 (0, 0)) (by (with_reducible repeat (first | refine blk_drewN ?_ _ | refine blk_drew ?_ | refine blk_alloc ?_ _)); exact BK114.out) hb); have n1_ := Aside0.mk (IsR.below (by repeat (first | (with_reducible first | exact HI118.out | apply IsR.alloc | apply IsR.drewN | apply IsR.drew | apply IsR.set_1 | apply IsR.set_2 | refine IsR.far ?_ NB118_114.out _) | exact HI118.out)) hb); have n2_ := Aside0.mk (below_step (by repeat (first | (with_reducible first | exact HB.out | apply below_alloc | apply pw_below_drewN | apply below_drew1 | refine below_set ?_ (IsR.ge HI118.out) | refine below_set ?_ GE114.out) | exact HB.out)) hb); clear BK114; clear HI118; clear HB; have BK114 := n0_; have HI118 := n1_; have HB := n2_; clear n0_ n1_ n2_; (try clear hb); (try clear hb2); (try clear hk); (try clear hi)))
                                go_ret
                                exact ⟨by first | rfl | (simp [errW_none, errW_some] <;> rfl) | (simp [*, errW_none, errW_some] <;> rfl), by repeat (first | (with_reducible first | exact HB.out | apply below_alloc | apply pw_below_drewN | apply below_drew1 | refine below_set ?_ (IsR.ge HI118.out) | refine below_set ?_ GE114.out) | exact HB.out)⟩
                              · rw [if_neg c60] at H
                                have c60b0 : (t159 == x8_1) = false := beq_eq_false_iff_ne.mpr c60
                                have c60b1 : (t159 != x8_1) = true := bne_iff_ne.mpr c60
                                obtain rfl := Option.some.inj H
                                go_wp2_with (first | (go_at_call 16; (with_reducible refine (octet_Reader_Err.callsR g118 t115 x119001_18 x119002_18 t143 t144 t145 w _ ?side1 ?side2 A48.out).mono ?_); (case side1 => repeat (first | (with_reducible first | exact HI118.out | apply IsR.alloc | apply IsR.drewN | apply IsR.drew | apply IsR.set_1 | apply IsR.set_2 | refine IsR.far ?_ NB118_114.out _) | exact HI118.out)); (case side2 => repeat (first | (with_reducible first | exact HB.out | apply below_alloc | apply pw_below_drewN | apply below_drew1 | refine below_set ?_ (IsR.ge HI118.out) | refine below_set ?_ GE114.out) | exact HB.out)); rintro e w72 ⟨ev_, rfl, hev_, hi, hb, hk⟩; (try clear HEV); have HEV := Aside0.mk hev_; clear hev_; (try (have hz_ : ev_ = .nilIface := HEV.out; subst hz_)); (try (obtain ⟨gE_, hz_, _, _⟩ := HEV.out; subst hz_)); have n0_ := Aside0.mk (KeepBut.blk hk (g' := gb114) (o := .cells #[.int .i64 a2_0, .int .u64 a2_1, .bool a2_2] 43 (0, 0)) (by (with_reducible repeat (first | refine blk_drewN ?_ _ | refine blk_drew ?_ | refine blk_alloc ?_ _)); exact BK114.out) NB114_118.out (by simp)); have n1_ := Aside0.mk (hb); have n2_ := Aside0.mk (hi); clear BK114; clear HB; clear HI118; have BK114 := n0_; have HB := n1_; have HI118 := n2_; clear n0_ n1_ n2_; (try clear hb); (try clear hb2); (try clear hk); (try clear hi); (try simp only [errW_none, errW_some]); have CA49 := fun W hg hv => plumblaw16_sameErr.calls ev_ t143 160 x8_1 true W hg hv A49.out; try simp only [errW_none, errW_some] at CA49) | (go_at_call 15; (with_reducible refine (CA49 _ ?hhg ?hhv).mono ?_); (case hhg => exact Handle_below HHG.out (by repeat (first | (with_reducible first | exact HB.out | apply below_alloc | apply pw_below_drewN | apply below_drew1) | exact HB.out))); (case hhv => exact (by first | exact HEV.out | exact EV_drewN HEV.out _ | exact EV_alloc HEV.out _ | exact EV_drew HEV.out)); rintro e w73 ⟨rfl, hb⟩; (try (have HEV2 := Aside0.mk (EV_below (by first | exact HEV.out | exact EV_drewN HEV.out _ | exact EV_alloc HEV.out _ | exact EV_drew HEV.out) hb); clear HEV; have HEV := HEV2; clear HEV2)); have n0_ := Aside0.mk (blk_below (g := gb114) (o := .cells #[.int .i64 a2_0, .int .u64 a2_1, .bool a2_2] 43 (0, 0)) (by (with_reducible repeat (first | refine blk_drewN ?_ _ | refine blk_drew ?_ | refine blk_alloc ?_ _)); exact BK114.out) hb); have n1_ := Aside0.mk (IsR.below (by repeat (first | (with_reducible first | exact HI118.out | apply IsR.alloc | apply IsR.drewN | apply IsR.drew | apply IsR.set_1 | apply IsR.set_2 | refine IsR.far ?_ NB118_114.out _) | exact HI118.out)) hb); have n2_ := Aside0.mk (below_step (by repeat (first | (with_reducible first | exact HB.out | apply below_alloc | apply pw_below_drewN | apply below_drew1 | refine below_set ?_ (IsR.ge HI118.out) | refine below_set ?_ GE114.out) | exact HB.out)) hb); clear BK114; clear HI118; clear HB; have BK114 := n0_; have HI118 := n1_; have HB := n2_; clear n0_ n1_ n2_; (try clear hb); (try clear hb2); (try clear hk); (try clear hi)) | (go_at_call 13; (with_reducible refine (octet_Reader_At.callsR g118 t115 t144 t145 t147 t148 t149 w _ ?side1 ?side2 A51.out).mono ?_); (case side1 => repeat (first | (with_reducible first | exact HI118.out | apply IsR.alloc | apply IsR.drewN | apply IsR.drew | apply IsR.set_1 | apply IsR.set_2 | refine IsR.far ?_ NB118_114.out _) | exact HI118.out)); (case side2 => repeat (first | (with_reducible first | exact HB.out | apply below_alloc | apply pw_below_drewN | apply below_drew1 | refine below_set ?_ (IsR.ge HI118.out) | refine below_set ?_ GE114.out) | exact HB.out)); rintro e w74 ⟨rfl, hi, hb, hk⟩; have n0_ := Aside0.mk (KeepBut.blk hk (g' := gb114) (o := .cells #[.int .i64 a2_0, .int .u64 a2_1, .bool a2_2] 43 (0, 0)) (by (with_reducible repeat (first | refine blk_drewN ?_ _ | refine blk_drew ?_ | refine blk_alloc ?_ _)); exact BK114.out) NB114_118.out (by simp)); have n1_ := Aside0.mk (hb); have n2_ := Aside0.mk (hi); clear BK114; clear HB; clear HI118; have BK114 := n0_; have HB := n1_; have HI118 := n2_; clear n0_ n1_ n2_; (try clear hb); (try clear hb2); (try clear hk); (try clear hi)) | (go_at_call 14; (with_reducible refine (octet_Reader_Left.callsR g118 t115 t148 t149 t150 t151 t152 w _ ?side1 ?side2 A53.out).mono ?_); (case side1 => repeat (first | (with_reducible first | exact HI118.out | apply IsR.alloc | apply IsR.drewN | apply IsR.drew | apply IsR.set_1 | apply IsR.set_2 | refine IsR.far ?_ NB118_114.out _) | exact HI118.out)); (case side2 => repeat (first | (with_reducible first | exact HB.out | apply below_alloc | apply pw_below_drewN | apply below_drew1 | refine below_set ?_ (IsR.ge HI118.out) | refine below_set ?_ GE114.out) | exact HB.out)); rintro e w75 ⟨rfl, hi, hb, hk⟩; have n0_ := Aside0.mk (KeepBut.blk hk (g' := gb114) (o := .cells #[.int .i64 a2_0, .int .u64 a2_1, .bool a2_2] 43 (0, 0)) (by (with_reducible repeat (first | refine blk_drewN ?_ _ | refine blk_drew ?_ | refine blk_alloc ?_ _)); exact BK114.out) NB114_118.out (by simp)); have n1_ := Aside0.mk (hb); have n2_ := Aside0.mk (hi); clear BK114; clear HB; clear HI118; have BK114 := n0_; have HB := n1_; have HI118 := n2_; clear n0_ n1_ n2_; (try clear hb); (try clear hb2); (try clear hk); (try clear hi)) | (go_at_call 17; (with_reducible refine (octet_Reader_Byte.callsR g118 t115 t151 t152 t153 t154 t155 w _ ?side1 ?side2 A55.out).mono ?_); (case side1 => repeat (first | (with_reducible first | exact HI118.out | apply IsR.alloc | apply IsR.drewN | apply IsR.drew | apply IsR.set_1 | apply IsR.set_2 | refine IsR.far ?_ NB118_114.out _) | exact HI118.out)); (case side2 => repeat (first | (with_reducible first | exact HB.out | apply below_alloc | apply pw_below_drewN | apply below_drew1 | refine below_set ?_ (IsR.ge HI118.out) | refine below_set ?_ GE114.out) | exact HB.out)); rintro e w76 ⟨rfl, hi, hb, hk⟩; have n0_ := Aside0.mk (KeepBut.blk hk (g' := gb114) (o := .cells #[.int .i64 a2_0, .int .u64 a2_1, .bool a2_2] 43 (0, 0)) (by (with_reducible repeat (first | refine blk_drewN ?_ _ | refine blk_drew ?_ | refine blk_alloc ?_ _)); exact BK114.out) NB114_118.out (by simp)); have n1_ := Aside0.mk (hb); have n2_ := Aside0.mk (hi); clear BK114; clear HB; clear HI118; have BK114 := n0_; have HB := n1_; have HI118 := n2_; clear n0_ n1_ n2_; (try clear hb); (try clear hb2); (try clear hk); (try clear hi)) | (go_at_call 19; (with_reducible refine (octet_Reader_Word32.callsR g118 t115 t154 t155 true t156 t157 t158 w _ ?side1 ?side2 A57.out).mono ?_); (case side1 => repeat (first | (with_reducible first | exact HI118.out | apply IsR.alloc | apply IsR.drewN | apply IsR.drew | apply IsR.set_1 | apply IsR.set_2 | refine IsR.far ?_ NB118_114.out _) | exact HI118.out)); (case side2 => repeat (first | (with_reducible first | exact HB.out | apply below_alloc | apply pw_below_drewN | apply below_drew1 | refine below_set ?_ (IsR.ge HI118.out) | refine below_set ?_ GE114.out) | exact HB.out)); rintro e w77 ⟨rfl, hi, hb, hk⟩; have n0_ := Aside0.mk (KeepBut.blk hk (g' := gb114) (o := .cells #[.int .i64 a2_0, .int .u64 a2_1, .bool a2_2] 43 (0, 0)) (by (with_reducible repeat (first | refine blk_drewN ?_ _ | refine blk_drew ?_ | refine blk_alloc ?_ _)); exact BK114.out) NB114_118.out (by simp)); have n1_ := Aside0.mk (hb); have n2_ := Aside0.mk (hi); clear BK114; clear HB; clear HI118; have BK114 := n0_; have HB := n1_; have HI118 := n2_; clear n0_ n1_ n2_; (try clear hb); (try clear hb2); (try clear hk); (try clear hi)) | (go_at_call 13; (with_reducible refine (octet_Reader_At.callsR g118 t115 t157 t158 t159 t160 t161 w _ ?side1 ?side2 A59.out).mono ?_); (case side1 => repeat (first | (with_reducible first | exact HI118.out | apply IsR.alloc | apply IsR.drewN | apply IsR.drew | apply IsR.set_1 | apply IsR.set_2 | refine IsR.far ?_ NB118_114.out _) | exact HI118.out)); (case side2 => repeat (first | (with_reducible first | exact HB.out | apply below_alloc | apply pw_below_drewN | apply below_drew1 | refine below_set ?_ (IsR.ge HI118.out) | refine below_set ?_ GE114.out) | exact HB.out)); rintro e w78 ⟨rfl, hi, hb, hk⟩; have n0_ := Aside0.mk (KeepBut.blk hk (g' := gb114) (o := .cells #[.int .i64 a2_0, .int .u64 a2_1, .bool a2_2] 43 (0, 0)) (by (with_reducible repeat (first | refine blk_drewN ?_ _ | refine blk_drew ?_ | refine blk_alloc ?_ _)); exact BK114.out) NB114_118.out (by simp)); have n1_ := Aside0.mk (hb); have n2_ := Aside0.mk (hi); clear BK114; clear HB; clear HI118; have BK114 := n0_; have HB := n1_; have HI118 := n2_; clear n0_ n1_ n2_; (try clear hb); (try clear hb2); (try clear hk); (try clear hi)))
                                go_ret
                                exact ⟨by first | rfl | (simp [errW_none, errW_some] <;> rfl) | (simp [*, errW_none, errW_some] <;> rfl), by repeat (first | (with_reducible first | exact HB.out | apply below_alloc | apply pw_below_drewN | apply below_drew1 | refine below_set ?_ (IsR.ge HI118.out) | refine below_set ?_ GE114.out) | exact HB.out)⟩
                            · rw [if_neg c58] at H
                              have c58b0 : (t156 == 0) = false := beq_eq_false_iff_ne.mpr c58
                              have c58b1 : (t156 != 0) = true := bne_iff_ne.mpr c58
                              obtain rfl := Option.some.inj H
                              go_wp2_with (first | (go_at_call 16; (with_reducible refine (octet_Reader_Err.callsR g118 t115 x119001_18 x119002_18 t143 t144 t145 w _ ?side1 ?side2 A48.out).mono ?_); (case side1 => repeat (first | (with_reducible first | exact HI118.out | apply IsR.alloc | apply IsR.drewN | apply IsR.drew | apply IsR.set_1 | apply IsR.set_2 | refine IsR.far ?_ NB118_114.out _) | exact HI118.out)); (case side2 => repeat (first | (with_reducible first | exact HB.out | apply below_alloc | apply pw_below_drewN | apply below_drew1 | refine below_set ?_ (IsR.ge HI118.out) | refine below_set ?_ GE114.out) | exact HB.out)); rintro e w79 ⟨ev_, rfl, hev_, hi, hb, hk⟩; (try clear HEV); have HEV := Aside0.mk hev_; clear hev_; (try (have hz_ : ev_ = .nilIface := HEV.out; subst hz_)); (try (obtain ⟨gE_, hz_, _, _⟩ := HEV.out; subst hz_)); have n0_ := Aside0.mk (KeepBut.blk hk (g' := gb114) (o := .cells #[.int .i64 a2_0, .int .u64 a2_1, .bool a2_2] 43 (0, 0)) (by (with_reducible repeat (first | refine blk_drewN ?_ _ | refine blk_drew ?_ | refine blk_alloc ?_ _)); exact BK114.out) NB114_118.out (by simp)); have n1_ := Aside0.mk (hb); have n2_ := Aside0.mk (hi); clear BK114; clear HB; clear HI118; have BK114 := n0_; have HB := n1_; have HI118 := n2_; clear n0_ n1_ n2_; (try clear hb); (try clear hb2); (try clear hk); (try clear hi); (try simp only [errW_none, errW_some]); have CA49 := fun W hg hv => plumblaw16_sameErr.calls ev_ t143 160 x8_1 true W hg hv A49.out; try simp only [errW_none, errW_some] at CA49) | (go_at_call 15; (with_reducible refine (CA49 _ ?hhg ?hhv).mono ?_); (case hhg => exact Handle_below HHG.out (by repeat (first | (with_reducible first | exact HB.out | apply below_alloc | apply pw_below_drewN | apply below_drew1) | exact HB.out))); (case hhv => exact (by first | exact HEV.out | exact EV_drewN HEV.out _ | exact EV_alloc HEV.out _ | exact EV_drew HEV.out)); rintro e w80 ⟨rfl, hb⟩; (try (have HEV2 := Aside0.mk (EV_below (by first | exact HEV.out | exact EV_drewN HEV.out _ | exact EV_alloc HEV.out _ | exact EV_drew HEV.out) hb); clear HEV; have HEV := HEV2; clear HEV2)); have n0_ := Aside0.mk (blk_below (g := gb114) (o := .cells #[.int .i64 a2_0, .int .u64 a2_1, .bool a2_2] 43 (0, 0)) (by (with_reducible repeat (first | refine blk_drewN ?_ _ | refine blk_drew ?_ | refine blk_alloc ?_ _)); exact BK114.out) hb); have n1_ := Aside0.mk (IsR.below (by repeat (first | (with_reducible first | exact HI118.out | apply IsR.alloc | apply IsR.drewN | apply IsR.drew | apply IsR.set_1 | apply IsR.set_2 | refine IsR.far ?_ NB118_114.out _) | exact HI118.out)) hb); have n2_ := Aside0.mk (below_step (by repeat (first | (with_reducible first | exact HB.out | apply below_alloc | apply pw_below_drewN | apply below_drew1 | refine below_set ?_ (IsR.ge HI118.out) | refine below_set ?_ GE114.out) | exact HB.out)) hb); clear BK114; clear HI118; clear HB; have BK114 := n0_; have HI118 := n1_; have HB := n2_; clear n0_ n1_ n2_; (try clear hb); (try clear hb2); (try clear hk); (try clear hi)) | (go_at_call 13; (with_reducible refine (octet_Reader_At.callsR g118 t115 t144 t145 t147 t148 t149 w _ ?side1 ?side2 A51.out).mono ?_); (case side1 => repeat (first | (with_reducible first | exact HI118.out | apply IsR.alloc | apply IsR.drewN | apply IsR.drew | apply IsR.set_1 | apply IsR.set_2 | refine IsR.far ?_ NB118_114.out _) | exact HI118.out)); (case side2 => repeat (first | (with_reducible first | exact HB.out | apply below_alloc | apply pw_below_drewN | apply below_drew1 | refine below_set ?_ (IsR.ge HI118.out) | refine below_set ?_ GE114.out) | exact HB.out)); rintro e w81 ⟨rfl, hi, hb, hk⟩; have n0_ := Aside0.mk (KeepBut.blk hk (g' := gb114) (o := .cells #[.int .i64 a2_0, .int .u64 a2_1, .bool a2_2] 43 (0, 0)) (by (with_reducible repeat (first | refine blk_drewN ?_ _ | refine blk_drew ?_ | refine blk_alloc ?_ _)); exact BK114.out) NB114_118.out (by simp)); have n1_ := Aside0.mk (hb); have n2_ := Aside0.mk (hi); clear BK114; clear HB; clear HI118; have BK114 := n0_; have HB := n1_; have HI118 := n2_; clear n0_ n1_ n2_; (try clear hb); (try clear hb2); (try clear hk); (try clear hi)) | (go_at_call 14; (with_reducible refine (octet_Reader_Left.callsR g118 t115 t148 t149 t150 t151 t152 w _ ?side1 ?side2 A53.out).mono ?_); (case side1 => repeat (first | (with_reducible first | exact HI118.out | apply IsR.alloc | apply IsR.drewN | apply IsR.drew | apply IsR.set_1 | apply IsR.set_2 | refine IsR.far ?_ NB118_114.out _) | exact HI118.out)); (case side2 => repeat (first | (with_reducible first | exact HB.out | apply below_alloc | apply pw_below_drewN | apply below_drew1 | refine below_set ?_ (IsR.ge HI118.out) | refine below_set ?_ GE114.out) | exact HB.out)); rintro e w82 ⟨rfl, hi, hb, hk⟩; have n0_ := Aside0.mk (KeepBut.blk hk (g' := gb114) (o := .cells #[.int .i64 a2_0, .int .u64 a2_1, .bool a2_2] 43 (0, 0)) (by (with_reducible repeat (first | refine blk_drewN ?_ _ | refine blk_drew ?_ | refine blk_alloc ?_ _)); exact BK114.out) NB114_118.out (by simp)); have n1_ := Aside0.mk (hb); have n2_ := Aside0.mk (hi); clear BK114; clear HB; clear HI118; have BK114 := n0_; have HB := n1_; have HI118 := n2_; clear n0_ n1_ n2_; (try clear hb); (try clear hb2); (try clear hk); (try clear hi)) | (go_at_call 17; (with_reducible refine (octet_Reader_Byte.callsR g118 t115 t151 t152 t153 t154 t155 w _ ?side1 ?side2 A55.out).mono ?_); (case side1 => repeat (first | (with_reducible first | exact HI118.out | apply IsR.alloc | apply IsR.drewN | apply IsR.drew | apply IsR.set_1 | apply IsR.set_2 | refine IsR.far ?_ NB118_114.out _) | exact HI118.out)); (case side2 => repeat (first | (with_reducible first | exact HB.out | apply below_alloc | apply pw_below_drewN | apply below_drew1 | refine below_set ?_ (IsR.ge HI118.out) | refine below_set ?_ GE114.out) | exact HB.out)); rintro e w83 ⟨rfl, hi, hb, hk⟩; have n0_ := Aside0.mk (KeepBut.blk hk (g' := gb114) (o := .cells #[.int .i64 a2_0, .int .u64 a2_1, .bool a2_2] 43 (0, 0)) (by (with_reducible repeat (first | refine blk_drewN ?_ _ | refine blk_drew ?_ | refine blk_alloc ?_ _)); exact BK114.out) NB114_118.out (by simp)); have n1_ := Aside0.mk (hb); have n2_ := Aside0.mk (hi); clear BK114; clear HB; clear HI118; have BK114 := n0_; have HB := n1_; have HI118 := n2_; clear n0_ n1_ n2_; (try clear hb); (try clear hb2); (try clear hk); (try clear hi)) | (go_at_call 19; (with_reducible refine (octet_Reader_Word32.callsR g118 t115 t154 t155 true t156 t157 t158 w _ ?side1 ?side2 A57.out).mono ?_); (case side1 => repeat (first | (with_reducible first | exact HI118.out | apply IsR.alloc | apply IsR.drewN | apply IsR.drew | apply IsR.set_1 | apply IsR.set_2 | refine IsR.far ?_ NB118_114.out _) | exact HI118.out)); (case side2 => repeat (first | (with_reducible first | exact HB.out | apply below_alloc | apply pw_below_drewN | apply below_drew1 | refine below_set ?_ (IsR.ge HI118.out) | refine below_set ?_ GE114.out) | exact HB.out)); rintro e w84 ⟨rfl, hi, hb, hk⟩; have n0_ := Aside0.mk (KeepBut.blk hk (g' := gb114) (o := .cells #[.int .i64 a2_0, .int .u64 a2_1, .bool a2_2] 43 (0, 0)) (by (with_reducible repeat (first | refine blk_drewN ?_ _ | refine blk_drew ?_ | refine blk_alloc ?_ _)); exact BK114.out) NB114_118.out (by simp)); have n1_ := Aside0.mk (hb); have n2_ := Aside0.mk (hi); clear BK114; clear HB; clear HI118; have BK114 := n0_; have HB := n1_; have HI118 := n2_; clear n0_ n1_ n2_; (try clear hb); (try clear hb2); (try clear hk); (try clear hi)))
                              go_ret
                              exact ⟨by first | rfl | (simp [errW_none, errW_some] <;> rfl) | (simp [*, errW_none, errW_some] <;> rfl), by repeat (first | (with_reducible first | exact HB.out | apply below_alloc | apply pw_below_drewN | apply below_drew1 | refine below_set ?_ (IsR.ge HI118.out) | refine below_set ?_ GE114.out) | exact HB.out)⟩
                          · rw [if_neg c56] at H
                            have c56b0 : (t153 == 0) = false := beq_eq_false_iff_ne.mpr c56
                            have c56b1 : (t153 != 0) = true := bne_iff_ne.mpr c56
                            obtain rfl := Option.some.inj H
                            go_wp2_with (first | (go_at_call 16; (with_reducible refine (octet_Reader_Err.callsR g118 t115 x119001_18 x119002_18 t143 t144 t145 w _ ?side1 ?side2 A48.out).mono ?_); (case side1 => repeat (first | (with_reducible first | exact HI118.out | apply IsR.alloc | apply IsR.drewN | apply IsR.drew | apply IsR.set_1 | apply IsR.set_2 | refine IsR.far ?_ NB118_114.out _) | exact HI118.out)); (case side2 => repeat (first | (with_reducible first | exact HB.out | apply below_alloc | apply pw_below_drewN | apply below_drew1 | refine below_set ?_ (IsR.ge HI118.out) | refine below_set ?_ GE114.out) | exact HB.out)); rintro e w85 ⟨ev_, rfl, hev_, hi, hb, hk⟩; (try clear HEV); have HEV := Aside0.mk hev_; clear hev_; (try (have hz_ : ev_ = .nilIface := HEV.out; subst hz_)); (try (obtain ⟨gE_, hz_, _, _⟩ := HEV.out; subst hz_)); have n0_ := Aside0.mk (KeepBut.blk hk (g' := gb114) (o := .cells #[.int .i64 a2_0, .int .u64 a2_1, .bool a2_2] 43 (0, 0)) (by (with_reducible repeat (first | refine blk_drewN ?_ _ | refine blk_drew ?_ | refine blk_alloc ?_ _)); exact BK114.out) NB114_118.out (by simp)); have n1_ := Aside0.mk (hb); have n2_ := Aside0.mk (hi); clear BK114; clear HB; clear HI118; have BK114 := n0_; have HB := n1_; have HI118 := n2_; clear n0_ n1_ n2_; (try clear hb); (try clear hb2); (try clear hk); (try clear hi); (try simp only [errW_none, errW_some]); have CA49 := fun W hg hv => plumblaw16_sameErr.calls ev_ t143 160 x8_1 true W hg hv A49.out; try simp only [errW_none, errW_some] at CA49) | (go_at_call 15; (with_reducible refine (CA49 _ ?hhg ?hhv).mono ?_); (case hhg => exact Handle_below HHG.out (by repeat (first | (with_reducible first | exact HB.out | apply below_alloc | apply pw_below_drewN | apply below_drew1) | exact HB.out))); (case hhv => exact (by first | exact HEV.out | exact EV_drewN HEV.out _ | exact EV_alloc HEV.out _ | exact EV_drew HEV.out)); rintro e w86 ⟨rfl, hb⟩; (try (have HEV2 := Aside0.mk (EV_below (by first | exact HEV.out | exact EV_drewN HEV.out _ | exact EV_alloc HEV.out _ | exact EV_drew HEV.out) hb); clear HEV; have HEV := HEV2; clear HEV2)); have n0_ := Aside0.mk (blk_below (g := gb114) (o := .cells #[.int .i64 a2_0, .int .u64 a2_1, .bool a2_2] 43 (0, 0)) (by (with_reducible repeat (first | refine blk_drewN ?_ _ | refine blk_drew ?_ | refine blk_alloc ?_ _)); exact BK114.out) hb); have n1_ := Aside0.mk (IsR.below (by repeat (first | (with_reducible first | exact HI118.out | apply IsR.alloc | apply IsR.drewN | apply IsR.drew | apply IsR.set_1 | apply IsR.set_2 | refine IsR.far ?_ NB118_114.out _) | exact HI118.out)) hb); have n2_ := Aside0.mk (below_step (by repeat (first | (with_reducible first | exact HB.out | apply below_alloc | apply pw_below_drewN | apply below_drew1 | refine below_set ?_ (IsR.ge HI118.out) | refine below_set ?_ GE114.out) | exact HB.out)) hb); clear BK114; clear HI118; clear HB; have BK114 := n0_; have HI118 := n1_; have HB := n2_; clear n0_ n1_ n2_; (try clear hb); (try clear hb2); (try clear hk); (try clear hi)) | (go_at_call 13; (with_reducible refine (octet_Reader_At.callsR g118 t115 t144 t145 t147 t148 t149 w _ ?side1 ?side2 A51.out).mono ?_); (case side1 => repeat (first | (with_reducible first | exact HI118.out | apply IsR.alloc | apply IsR.drewN | apply IsR.drew | apply IsR.set_1 | apply IsR.set_2 | refine IsR.far ?_ NB118_114.out _) | exact HI118.out)); (case side2 => repeat (first | (with_reducible first | exact HB.out | apply below_alloc | apply pw_below_drewN | apply below_drew1 | refine below_set ?_ (IsR.ge HI118.out) | refine below_set ?_ GE114.out) | exact HB.out)); rintro e w87 ⟨rfl, hi, hb, hk⟩; have n0_ := Aside0.mk (KeepBut.blk hk (g' := gb114) (o := .cells #[.int .i64 a2_0, .int .u64 a2_1, .bool a2_2] 43 (0, 0)) (by (with_reducible repeat (first | refine blk_drewN ?_ _ | refine blk_drew ?_ | refine blk_alloc ?_ _)); exact BK114.out) NB114_118.out (by simp)); have n1_ := Aside0.mk (hb); have n2_ := Aside0.mk (hi); clear BK114; clear HB; clear HI118; have BK114 := n0_; have HB := n1_; have HI118 := n2_; clear n0_ n1_ n2_; (try clear hb); (try clear hb2); (try clear hk); (try clear hi)) | (go_at_call 14; (with_reducible refine (octet_Reader_Left.callsR g118 t115 t148 t149 t150 t151 t152 w _ ?side1 ?side2 A53.out).mono ?_); (case side1 => repeat (first | (with_reducible first | exact HI118.out | apply IsR.alloc | apply IsR.drewN | apply IsR.drew | apply IsR.set_1 | apply IsR.set_2 | refine IsR.far ?_ NB118_114.out _) | exact HI118.out)); (case side2 => repeat (first | (with_reducible first | exact HB.out | apply below_alloc | apply pw_below_drewN | apply below_drew1 | refine below_set ?_ (IsR.ge HI118.out) | refine below_set ?_ GE114.out) | exact HB.out)); rintro e w88 ⟨rfl, hi, hb, hk⟩; have n0_ := Aside0.mk (KeepBut.blk hk (g' := gb114) (o := .cells #[.int .i64 a2_0, .int .u64 a2_1, .bool a2_2] 43 (0, 0)) (by (with_reducible repeat (first | refine blk_drewN ?_ _ | refine blk_drew ?_ | refine blk_alloc ?_ _)); exact BK114.out) NB114_118.out (by simp)); have n1_ := Aside0.mk (hb); have n2_ := Aside0.mk (hi); clear BK114; clear HB; clear HI118; have BK114 := n0_; have HB := n1_; have HI118 := n2_; clear n0_ n1_ n2_; (try clear hb); (try clear hb2); (try clear hk); (try clear hi)) | (go_at_call 17; (with_reducible refine (octet_Reader_Byte.callsR g118 t115 t151 t152 t153 t154 t155 w _ ?side1 ?side2 A55.out).mono ?_); (case side1 => repeat (first | (with_reducible first | exact HI118.out | apply IsR.alloc | apply IsR.drewN | apply IsR.drew | apply IsR.set_1 | apply IsR.set_2 | refine IsR.far ?_ NB118_114.out _) | exact HI118.out)); (case side2 => repeat (first | (with_reducible first | exact HB.out | apply below_alloc | apply pw_below_drewN | apply below_drew1 | refine below_set ?_ (IsR.ge HI118.out) | refine below_set ?_ GE114.out) | exact HB.out)); rintro e w89 ⟨rfl, hi, hb, hk⟩; have n0_ := Aside0.mk (KeepBut.blk hk (g' := gb114) (o := .cells #[.int .i64 a2_0, .int .u64 a2_1, .bool a2_2] 43 (0, 0)) (by (with_reducible repeat (first | refine blk_drewN ?_ _ | refine blk_drew ?_ | refine blk_alloc ?_ _)); exact BK114.out) NB114_118.out (by simp)); have n1_ := Aside0.mk (hb); have n2_ := Aside0.mk (hi); clear BK114; clear HB; clear HI118; have BK114 := n0_; have HB := n1_; have HI118 := n2_; clear n0_ n1_ n2_; (try clear hb); (try clear hb2); (try clear hk); (try clear hi)))
                            go_ret
                            exact ⟨by first | rfl | (simp [errW_none, errW_some] <;> rfl) | (simp [*, errW_none, errW_some] <;> rfl), by repeat (first | (with_reducible first | exact HB.out | apply below_alloc | apply pw_below_drewN | apply below_drew1 | refine below_set ?_ (IsR.ge HI118.out) | refine below_set ?_ GE114.out) | exact HB.out)⟩
                        · rw [if_neg c54] at H
                          have c54b0 : (t150 == (wrap64 ((l0.length : Int) - x8_1))) = false := beq_eq_false_iff_ne.mpr c54
                          have c54b1 : (t150 != (wrap64 ((l0.length : Int) - x8_1))) = true := bne_iff_ne.mpr c54
                          obtain rfl := Option.some.inj H
                          go_wp2_with (first | (go_at_call 16; (with_reducible refine (octet_Reader_Err.callsR g118 t115 x119001_18 x119002_18 t143 t144 t145 w _ ?side1 ?side2 A48.out).mono ?_); (case side1 => repeat (first | (with_reducible first | exact HI118.out | apply IsR.alloc | apply IsR.drewN | apply IsR.drew | apply IsR.set_1 | apply IsR.set_2 | refine IsR.far ?_ NB118_114.out _) | exact HI118.out)); (case side2 => repeat (first | (with_reducible first | exact HB.out | apply below_alloc | apply pw_below_drewN | apply below_drew1 | refine below_set ?_ (IsR.ge HI118.out) | refine below_set ?_ GE114.out) | exact HB.out)); rintro e w90 ⟨ev_, rfl, hev_, hi, hb, hk⟩; (try clear HEV); have HEV := Aside0.mk hev_; clear hev_; (try (have hz_ : ev_ = .nilIface := HEV.out; subst hz_)); (try (obtain ⟨gE_, hz_, _, _⟩ := HEV.out; subst hz_)); have n0_ := Aside0.mk (KeepBut.blk hk (g' := gb114) (o := .cells #[.int .i64 a2_0, .int .u64 a2_1, .bool a2_2] 43 (0, 0)) (by (with_reducible repeat (first | refine blk_drewN ?_ _ | refine blk_drew ?_ | refine blk_alloc ?_ _)); exact BK114.out) NB114_118.out (by simp)); have n1_ := Aside0.mk (hb); have n2_ := Aside0.mk (hi); clear BK114; clear HB; clear HI118; have BK114 := n0_; have HB := n1_; have HI118 := n2_; clear n0_ n1_ n2_; (try clear hb); (try clear hb2); (try clear hk); (try clear hi); (try simp only [errW_none, errW_some]); have CA49 := fun W hg hv => plumblaw16_sameErr.calls ev_ t143 160 x8_1 true W hg hv A49.out; try simp only [errW_none, errW_some] at CA49) | (go_at_call 15; (with_reducible refine (CA49 _ ?hhg ?hhv).mono ?_); (case hhg => exact Handle_below HHG.out (by repeat (first | (with_reducible first | exact HB.out | apply below_alloc | apply pw_below_drewN | apply below_drew1) | exact HB.out))); (case hhv => exact (by first | exact HEV.out | exact EV_drewN HEV.out _ | exact EV_alloc HEV.out _ | exact EV_drew HEV.out)); rintro e w91 ⟨rfl, hb⟩; (try (have HEV2 := Aside0.mk (EV_below (by first | exact HEV.out | exact EV_drewN HEV.out _ | exact EV_alloc HEV.out _ | exact EV_drew HEV.out) hb); clear HEV; have HEV := HEV2; clear HEV2)); have n0_ := Aside0.mk (blk_below (g := gb114) (o := .cells #[.int .i64 a2_0, .int .u64 a2_1, .bool a2_2] 43 (0, 0)) (by (with_reducible repeat (first | refine blk_drewN ?_ _ | refine blk_drew ?_ | refine blk_alloc ?_ _)); exact BK114.out) hb); have n1_ := Aside0.mk (IsR.below (by repeat (first | (with_reducible first | exact HI118.out | apply IsR.alloc | apply IsR.drewN | apply IsR.drew | apply IsR.set_1 | apply IsR.set_2 | refine IsR.far ?_ NB118_114.out _) | exact HI118.out)) hb); have n2_ := Aside0.mk (below_step (by repeat (first | (with_reducible first | exact HB.out | apply below_alloc | apply pw_below_drewN | apply below_drew1 | refine below_set ?_ (IsR.ge HI118.out) | refine below_set ?_ GE114.out) | exact HB.out)) hb); clear BK114; clear HI118; clear HB; have BK114 := n0_; have HI118 := n1_; have HB := n2_; clear n0_ n1_ n2_; (try clear hb); (try clear hb2); (try clear hk); (try clear hi)) | (go_at_call 13; (with_reducible refine (octet_Reader_At.callsR g118 t115 t144 t145 t147 t148 t149 w _ ?side1 ?side2 A51.out).mono ?_); (case side1 => repeat (first | (with_reducible first | exact HI118.out | apply IsR.alloc | apply IsR.drewN | apply IsR.drew | apply IsR.set_1 | apply IsR.set_2 | refine IsR.far ?_ NB118_114.out _) | exact HI118.out)); (case side2 => repeat (first | (with_reducible first | exact HB.out | apply below_alloc | apply pw_below_drewN | apply below_drew1 | refine below_set ?_ (IsR.ge HI118.out) | refine below_set ?_ GE114.out) | exact HB.out)); rintro e w92 ⟨rfl, hi, hb, hk⟩; have n0_ := Aside0.mk (KeepBut.blk hk (g' := gb114) (o := .cells #[.int .i64 a2_0, .int .u64 a2_1, .bool a2_2] 43 (0, 0)) (by (with_reducible repeat (first | refine blk_drewN ?_ _ | refine blk_drew ?_ | refine blk_alloc ?_ _)); exact BK114.out) NB114_118.out (by simp)); have n1_ := Aside0.mk (hb); have n2_ := Aside0.mk (hi); clear BK114; clear HB; clear HI118; have BK114 := n0_; have HB := n1_; have HI118 := n2_; clear n0_ n1_ n2_; (try clear hb); (try clear hb2); (try clear hk); (try clear hi)) | (go_at_call 14; (with_reducible refine (octet_Reader_Left.callsR g118 t115 t148 t149 t150 t151 t152 w _ ?side1 ?side2 A53.out).mono ?_); (case side1 => repeat (first | (with_reducible first | exact HI118.out | apply IsR.alloc | apply IsR.drewN | apply IsR.drew | apply IsR.set_1 | apply IsR.set_2 | refine IsR.far ?_ NB118_114.out _) | exact HI118.out)); (case side2 => repeat (first | (with_reducible first | exact HB.out | apply below_alloc | apply pw_below_drewN | apply below_drew1 | refine below_set ?_ (IsR.ge HI118.out) | refine below_set ?_ GE114.out) | exact HB.out)); rintro e w93 ⟨rfl, hi, hb, hk⟩; have n0_ := Aside0.mk (KeepBut.blk hk (g' := gb114) (o := .cells #[.int .i64 a2_0, .int .u64 a2_1, .bool a2_2] 43 (0, 0)) (by (with_reducible repeat (first | refine blk_drewN ?_ _ | refine blk_drew ?_ | refine blk_alloc ?_ _)); exact BK114.out) NB114_118.out (by simp)); have n1_ := Aside0.mk (hb); have n2_ := Aside0.mk (hi); clear BK114; clear HB; clear HI118; have BK114 := n0_; have HB := n1_; have HI118 := n2_; clear n0_ n1_ n2_; (try clear hb); (try clear hb2); (try clear hk); (try clear hi)))
                          go_ret
                          exact ⟨by first | rfl | (simp [errW_none, errW_some] <;> rfl) | (simp [*, errW_none, errW_some] <;> rfl), by repeat (first | (with_reducible first | exact HB.out | apply below_alloc | apply pw_below_drewN | apply below_drew1 | refine below_set ?_ (IsR.ge HI118.out) | refine below_set ?_ GE114.out) | exact HB.out)⟩
                      · rw [if_neg c52] at H
                        have c52b0 : (t147 == x8_1) = false := beq_eq_false_iff_ne.mpr c52
                        have c52b1 : (t147 != x8_1) = true := bne_iff_ne.mpr c52
                        obtain rfl := Option.some.inj H
                        go_wp2_with (first | (go_at_call 16; (with_reducible refine (octet_Reader_Err.callsR g118 t115 x119001_18 x119002_18 t143 t144 t145 w _ ?side1 ?side2 A48.out).mono ?_); (case side1 => repeat (first | (with_reducible first | exact HI118.out | apply IsR.alloc | apply IsR.drewN | apply IsR.drew | apply IsR.set_1 | apply IsR.set_2 | refine IsR.far ?_ NB118_114.out _) | exact HI118.out)); (case side2 => repeat (first | (with_reducible first | exact HB.out | apply below_alloc | apply pw_below_drewN | apply below_drew1 | refine below_set ?_ (IsR.ge HI118.out) | refine below_set ?_ GE114.out) | exact HB.out)); rintro e w94 ⟨ev_, rfl, hev_, hi, hb, hk⟩; (try clear HEV); have HEV := Aside0.mk hev_; clear hev_; (try (have hz_ : ev_ = .nilIface := HEV.out; subst hz_)); (try (obtain ⟨gE_, hz_, _, _⟩ := HEV.out; subst hz_)); have n0_ := Aside0.mk (KeepBut.blk hk (g' := gb114) (o := .cells #[.int .i64 a2_0, .int .u64 a2_1, .bool a2_2] 43 (0, 0)) (by (with_reducible repeat (first | refine blk_drewN ?_ _ | refine blk_drew ?_ | refine blk_alloc ?_ _)); exact BK114.out) NB114_118.out (by simp)); have n1_ := Aside0.mk (hb); have n2_ := Aside0.mk (hi); clear BK114; clear HB; clear HI118; have BK114 := n0_; have HB := n1_; have HI118 := n2_; clear n0_ n1_ n2_; (try clear hb); (try clear hb2); (try clear hk); (try clear hi); (try simp only [errW_none, errW_some]); have CA49 := fun W hg hv => plumblaw16_sameErr.calls ev_ t143 160 x8_1 true W hg hv A49.out; try simp only [errW_none, errW_some] at CA49) | (go_at_call 15; (with_reducible refine (CA49 _ ?hhg ?hhv).mono ?_); (case hhg => exact Handle_below HHG.out (by repeat (first | (with_reducible first | exact HB.out | apply below_alloc | apply pw_below_drewN | apply below_drew1) | exact HB.out))); (case hhv => exact (by first | exact HEV.out | exact EV_drewN HEV.out _ | exact EV_alloc HEV.out _ | exact EV_drew HEV.out)); rintro e w95 ⟨rfl, hb⟩; (try (have HEV2 := Aside0.mk (EV_below (by first | exact HEV.out | exact EV_drewN HEV.out _ | exact EV_alloc HEV.out _ | exact EV_drew HEV.out) hb); clear HEV; have HEV := HEV2; clear HEV2)); have n0_ := Aside0.mk (blk_below (g := gb114) (o := .cells #[.int .i64 a2_0, .int .u64 a2_1, .bool a2_2] 43 (0, 0)) (by (with_reducible repeat (first | refine blk_drewN ?_ _ | refine blk_drew ?_ | refine blk_alloc ?_ _)); exact BK114.out) hb); have n1_ := Aside0.mk (IsR.below (by repeat (first | (with_reducible first | exact HI118.out | apply IsR.alloc | apply IsR.drewN | apply IsR.drew | apply IsR.set_1 | apply IsR.set_2 | refine IsR.far ?_ NB118_114.out _) | exact HI118.out)) hb); have n2_ := Aside0.mk (below_step (by repeat (first | (with_reducible first | exact HB.out | apply below_alloc | apply pw_below_drewN | apply below_drew1 | refine below_set ?_ (IsR.ge HI118.out) | refine below_set ?_ GE114.out) | exact HB.out)) hb); clear BK114; clear HI118; clear HB; have BK114 := n0_; have HI118 := n1_; have HB := n2_; clear n0_ n1_ n2_; (try clear hb); (try clear hb2); (try clear hk); (try clear hi)) | (go_at_call 13; (with_reducible refine (octet_Reader_At.callsR g118 t115 t144 t145 t147 t148 t149 w _ ?side1 ?side2 A51.out).mono ?_); (case side1 => repeat (first | (with_reducible first | exact HI118.out | apply IsR.alloc | apply IsR.drewN | apply IsR.drew | apply IsR.set_1 | apply IsR.set_2 | refine IsR.far ?_ NB118_114.out _) | exact HI118.out)); (case side2 => repeat (first | (with_reducible first | exact HB.out | apply below_alloc | apply pw_below_drewN | apply below_drew1 | refine below_set ?_ (IsR.ge HI118.out) | refine below_set ?_ GE114.out) | exact HB.out)); rintro e w96 ⟨rfl, hi, hb, hk⟩; have n0_ := Aside0.mk (KeepBut.blk hk (g' := gb114) (o := .cells #[.int .i64 a2_0, .int .u64 a2_1, .bool a2_2] 43 (0, 0)) (by (with_reducible repeat (first | refine blk_drewN ?_ _ | refine blk_drew ?_ | refine blk_alloc ?_ _)); exact BK114.out) NB114_118.out (by simp)); have n1_ := Aside0.mk (hb); have n2_ := Aside0.mk (hi); clear BK114; clear HB; clear HI118; have BK114 := n0_; have HB := n1_; have HI118 := n2_; clear n0_ n1_ n2_; (try clear hb); (try clear hb2); (try clear hk); (try clear hi)))
                        go_ret
                        exact ⟨by first | rfl | (simp [errW_none, errW_some] <;> rfl) | (simp [*, errW_none, errW_some] <;> rfl), by repeat (first | (with_reducible first | exact HB.out | apply below_alloc | apply pw_below_drewN | apply below_drew1 | refine below_set ?_ (IsR.ge HI118.out) | refine below_set ?_ GE114.out) | exact HB.out)⟩
                    · replace c50 := Bool.eq_false_iff.mpr c50
                      subst c50
                      have H1 : (some false) = some r := by rw [if_neg (show ¬ (false = true) by decide)] at H; exact H
                      clear H
                      have H := H1
                      clear H1
                      obtain rfl := Option.some.inj H
                      go_wp2_with (first | (go_at_call 16; (with_reducible refine (octet_Reader_Err.callsR g118 t115 x119001_18 x119002_18 t143 t144 t145 w _ ?side1 ?side2 A48.out).mono ?_); (case side1 => repeat (first | (with_reducible first | exact HI118.out | apply IsR.alloc | apply IsR.drewN | apply IsR.drew | apply IsR.set_1 | apply IsR.set_2 | refine IsR.far ?_ NB118_114.out _) | exact HI118.out)); (case side2 => repeat (first | (with_reducible first | exact HB.out | apply below_alloc | apply pw_below_drewN | apply below_drew1 | refine below_set ?_ (IsR.ge HI118.out) | refine below_set ?_ GE114.out) | exact HB.out)); rintro e w97 ⟨ev_, rfl, hev_, hi, hb, hk⟩; (try clear HEV); have HEV := Aside0.mk hev_; clear hev_; (try (have hz_ : ev_ = .nilIface := HEV.out; subst hz_)); (try (obtain ⟨gE_, hz_, _, _⟩ := HEV.out; subst hz_)); have n0_ := Aside0.mk (KeepBut.blk hk (g' := gb114) (o := .cells #[.int .i64 a2_0, .int .u64 a2_1, .bool a2_2] 43 (0, 0)) (by (with_reducible repeat (first | refine blk_drewN ?_ _ | refine blk_drew ?_ | refine blk_alloc ?_ _)); exact BK114.out) NB114_118.out (by simp)); have n1_ := Aside0.mk (hb); have n2_ := Aside0.mk (hi); clear BK114; clear HB; clear HI118; have BK114 := n0_; have HB := n1_; have HI118 := n2_; clear n0_ n1_ n2_; (try clear hb); (try clear hb2); (try clear hk); (try clear hi); (try simp only [errW_none, errW_some]); have CA49 := fun W hg hv => plumblaw16_sameErr.calls ev_ t143 160 x8_1 false W hg hv A49.out; try simp only [errW_none, errW_some] at CA49) | (go_at_call 15; (with_reducible refine (CA49 _ ?hhg ?hhv).mono ?_); (case hhg => exact Handle_below HHG.out (by repeat (first | (with_reducible first | exact HB.out | apply below_alloc | apply pw_below_drewN | apply below_drew1) | exact HB.out))); (case hhv => exact (by first | exact HEV.out | exact EV_drewN HEV.out _ | exact EV_alloc HEV.out _ | exact EV_drew HEV.out)); rintro e w98 ⟨rfl, hb⟩; (try (have HEV2 := Aside0.mk (EV_below (by first | exact HEV.out | exact EV_drewN HEV.out _ | exact EV_alloc HEV.out _ | exact EV_drew HEV.out) hb); clear HEV; have HEV := HEV2; clear HEV2)); have n0_ := Aside0.mk (blk_below (g := gb114) (o := .cells #[.int .i64 a2_0, .int .u64 a2_1, .bool a2_2] 43 (0, 0)) (by (with_reducible repeat (first | refine blk_drewN ?_ _ | refine blk_drew ?_ | refine blk_alloc ?_ _)); exact BK114.out) hb); have n1_ := Aside0.mk (IsR.below (by repeat (first | (with_reducible first | exact HI118.out | apply IsR.alloc | apply IsR.drewN | apply IsR.drew | apply IsR.set_1 | apply IsR.set_2 | refine IsR.far ?_ NB118_114.out _) | exact HI118.out)) hb); have n2_ := Aside0.mk (below_step (by repeat (first | (with_reducible first | exact HB.out | apply below_alloc | apply pw_below_drewN | apply below_drew1 | refine below_set ?_ (IsR.ge HI118.out) | refine below_set ?_ GE114.out) | exact HB.out)) hb); clear BK114; clear HI118; clear HB; have BK114 := n0_; have HI118 := n1_; have HB := n2_; clear n0_ n1_ n2_; (try clear hb); (try clear hb2); (try clear hk); (try clear hi)))
                      go_ret
                      exact ⟨by first | rfl | (simp [errW_none, errW_some] <;> rfl) | (simp [*, errW_none, errW_some] <;> rfl), by repeat (first | (with_reducible first | exact HB.out | apply below_alloc | apply pw_below_drewN | apply below_drew1 | refine below_set ?_ (IsR.ge HI118.out) | refine below_set ?_ GE114.out) | exact HB.out)⟩
                  · rw [if_neg c47] at H
                    have c47b0 : (x11_18 == 0) = false := beq_eq_false_iff_ne.mpr c47
                    have c47b1 : (x11_18 != 0) = true := bne_iff_ne.mpr c47
                    obtain rfl := Option.some.inj H
                    go_wp2
                    go_ret
                    exact ⟨by first | rfl | (simp [errW_none, errW_some] <;> rfl) | (simp [*, errW_none, errW_some] <;> rfl), by repeat (first | (with_reducible first | exact HB.out | apply below_alloc | apply pw_below_drewN | apply below_drew1 | refine below_set ?_ (IsR.ge HI118.out) | refine below_set ?_ GE114.out) | exact HB.out)⟩

end Go.Proofs.YtenomaibgpbonaaDoor.POctetShort
