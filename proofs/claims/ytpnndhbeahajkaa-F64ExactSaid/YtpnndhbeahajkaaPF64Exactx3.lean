/- Go functions as Lean functions and their contracts: each call comes to what the Lean function says; or a law's row out of them. No conditions. Written by this session's wip/hprint.py (the kit's print with contracts and repairs of my own). -/
import Derived.Test.YtpnndhbeahajkaaPF64Exactx0
import Derived.Test.YtpnndhbeahajkaaPF64Exactx1
import Derived.Test.YtpnndhbeahajkaaPF64Exactx2
namespace Go.Proofs.Ytpnndhbeahajkaa.PF64Exact
open Go.RowKit Go.Proofs.YtpnndhbeahajkaaW.PrintWords Go.Proofs.YtpnndhbeahajkaaW.PrintLast Go.Proofs.YtpnndhbeahajkaaW.PrintMore
attribute [local go_sem] max2_int min2_int max_two min_two max_three min_three max_four min_four   -- for this text's walks alone
set_option linter.unusedVariables false
set_option linter.unusedSimpArgs false

/-! ### nat_Shl: function 32, by hand -/
section
open Go.Proofs.Ytpnndhbeahajkaa.Math
def halfOf : Nat → Nat
  | 0 => 0
  | j + 1 => 2 ^ j
theorem halfOf_half (j : Nat) : ((halfOf (j + 1) : Nat) : Int) / 2 = ((halfOf j : Nat) : Int) := by
  cases j with
  | zero => simp [halfOf]
  | succ j => simp only [halfOf, Nat.pow_succ]; omega
theorem len_l0 (j : Nat) : ∀ (k x m : Nat), j < k → x < 2 ^ (2 ^ j) → j ≤ 6 → m + 2 ^ j ≤ 64 →
    ∃ L : Nat, wide_Len.l0 k (x : Int) (m : Int) ((halfOf j : Nat) : Int) = some (((m + L : Nat)) : Int) ∧ IsLen x L ∧ L ≤ 2 ^ j := by
  induction j with
  | zero =>
    intro k x m hk hx hj hm
    obtain ⟨k, rfl⟩ : ∃ m, k = m + 1 := ⟨k - 1, by omega⟩
    have hx2 : x < 2 := by simpa using hx
    refine ⟨x, ?_, ?_, by simp; omega⟩
    · simp only [wide_Len.l0]
      rw [show ((halfOf 0 : Nat) : Int) = 0 from rfl, if_neg (by omega)]
      simp only [Option.some.injEq]
      unfold wrap64
      have : m ≤ 63 := by simpa using hm
      omega
    · rcases Nat.lt_or_ge x 1 with h | h
      · obtain rfl : x = 0 := by omega
        exact IsLen.zero
      · obtain rfl : x = 1 := by omega
        exact ⟨by simp, fun _ => by simp⟩
  | succ j ih =>
    intro k x m hk hx hj hm
    obtain ⟨k, rfl⟩ : ∃ m, k = m + 1 := ⟨k - 1, by omega⟩
    have hp : 0 < 2 ^ j := Nat.two_pow_pos j
    have h32 : 2 ^ j ≤ 2 ^ 5 := Nat.pow_le_pow_right (by omega) (by omega)
    have hs : (2 : Nat) ^ (j + 1) = 2 ^ j + 2 ^ j := by rw [Nat.pow_succ]; omega
    rw [hs] at hm
    simp only [wide_Len.l0]
    rw [halfOf_half j, show halfOf (j + 1) = 2 ^ j from rfl]
    rw [if_pos (by omega), if_pos (by omega), shrN x (2 ^ j) (by omega)]
    obtain ⟨y, hy⟩ : ∃ y, x / 2 ^ (2 ^ j) = y := ⟨_, rfl⟩
    rw [hy]
    have hP : 0 < 2 ^ (2 ^ j) := Nat.two_pow_pos _
    by_cases h0 : y = 0
    · rw [if_pos (by omega)]
      obtain ⟨L, h1, h2, h3⟩ := ih k x m (by omega) (by rcases Nat.div_eq_zero_iff.1 (hy.trans h0) with h | h <;> omega) (by omega) (by omega)
      exact ⟨L, h1, h2, by rw [hs]; omega⟩
    · rw [if_neg (by omega), show wrap64 ((m : Int) + ((2 ^ j : Nat) : Int)) = ((m + 2 ^ j : Nat) : Int) from by unfold wrap64; omega]
      obtain ⟨L, h1, h2, h3⟩ := ih k y (m + 2 ^ j) (by omega) (by
        rw [← hy, Nat.div_lt_iff_lt_mul hP, ← Nat.pow_add, ← hs]; exact hx) (by omega) (by omega)
      exact ⟨L + 2 ^ j, by rw [h1]; congr 2; omega, IsLen.shift hy (by omega) h2, by rw [hs]; omega⟩
theorem len_spec (x k : Nat) (hx : x < 18446744073709551616) (hk : 6 < k) : ∃ L : Nat, wide_Len.f k (x : Int) = some (L : Int) ∧ IsLen x L ∧ L ≤ 64 := by
  obtain ⟨L, h1, h2, h3⟩ := len_l0 6 k x 0 hk (by simpa using hx) (by omega) (by simp)
  exact ⟨L, by rw [Nat.zero_add] at h1; exact h1, h2, by simpa using h3⟩
def nat_Shl.out (m n : Int) : List Int := if m = 0 then [] else if shr .u64 m (64 - n % 64) = 0 then List.replicate (n / 64).toNat 0 ++ [shl .u64 m (n % 64)] else List.replicate (n / 64).toNat 0 ++ [shl .u64 m (n % 64), shr .u64 m (64 - n % 64)]
def nat_Shl.f (l0 : List Int) (n : Int) : Option (List Int × Int) := match l0 with
  | [m] => if (0 ≤ n ∧ n ≤ 6000) ∧ 0 ≤ m ∧ m < 18446744073709551616 then some (nat_Shl.out m n, 0) else none
  | _ => none
theorem nat_Shl.same {l : List Int} {n : Int} {r : List Int × Int} (h : nat_Shl.f l (wrap64 (n - n)) = some r) : nat_Shl.f l 0 = some r := by
  have e : wrap64 (n - n) = 0 := by rw [Int.sub_self]; unfold wrap64; omega
  rw [← e]
  exact h
/-- A row that is read, under a capacity of any size. -/
def nat_Shl.RC (w : World) (v : Value) (xs : List Int) : Prop := ∃ A c, v = .slice A xs.length c ∧ xs.length ≤ c ∧ Kd.C (Kd.int .u64) w A xs.length xs
theorem nat_Shl.RC_below {w w1 : World} {v : Value} {xs : List Int} (h : nat_Shl.RC w v xs) (hb : Below w.heap.size w w1) : nat_Shl.RC w1 v xs := by
  obtain ⟨A, c, e, hc, hr⟩ := h
  exact ⟨A, c, e, hc, Kd.C_below hr hb⟩
theorem nat_Shl.RC_alloc {w : World} {v : Value} {xs : List Int} (h : nat_Shl.RC w v xs) (o : Obj) : nat_Shl.RC (w.alloc o) v xs := by
  obtain ⟨A, c, e, hc, hr⟩ := h
  exact ⟨A, c, e, hc, Kd.C_alloc hr o⟩
theorem nat_Shl.RC_drewN {w : World} {v : Value} {xs : List Int} (h : nat_Shl.RC w v xs) (m : Nat) : nat_Shl.RC (w.drewN m) v xs := by
  obtain ⟨A, c, e, hc, hr⟩ := h
  exact ⟨A, c, e, hc, Kd.C_drewN hr m⟩
theorem nat_Shl.RC_drew {w : World} {v : Value} {xs : List Int} (h : nat_Shl.RC w v xs) : nat_Shl.RC w.drew v xs := by
  obtain ⟨A, c, e, hc, hr⟩ := h
  exact ⟨A, c, e, hc, Kd.C_drew hr⟩
theorem nat_Shl.RC_slice {w : World} {v : Value} {xs : List Int} (h : nat_Shl.RC w v xs) : ∃ A c, v = .slice A xs.length c := by
  obtain ⟨A, c, e, _⟩ := h
  exact ⟨A, c, e⟩
theorem nat_Shl.RC_reads {w : World} {A : Option Addr} {n c : Nat} {xs : List Int} (h : nat_Shl.RC w (.slice A n c) xs) : n = xs.length ∧ xs.length ≤ c ∧ Kd.C (Kd.int .u64) w A xs.length xs := by
  obtain ⟨A', c', e, hc, hr⟩ := h
  injection e with h1 h2 h3
  subst h1
  subst h3
  exact ⟨h2, hc, hr⟩
theorem nat_Shl.size_step (k : Nat) (l : List Int) (x : Int) (h0 : 0 < x) (hx : x ≤ l.length) (hb : x ≤ 4611686018427387904) : nat_size.l0 (k + 1) l x = if rd l (x - 1) = 0 then nat_size.l0 k l (x - 1) else some x := by
  have e : wrap64 (x - 1) = x - 1 := by unfold wrap64; omega
  rw [nat_size.l0, e, if_pos (by omega), if_pos (by omega), if_pos (by omega)]
theorem nat_Shl.size_end (k : Nat) (l : List Int) : nat_size.l0 (k + 1) l 0 = some 0 := by
  rw [nat_size.l0, if_neg (by omega)]
theorem nat_Shl.size_one (m : Int) : nat_size.f 5 [m] = some (if m = 0 then 0 else 1) := by
  have h1 := nat_Shl.size_step 4 [m] 1 (by omega) (by simp) (by omega)
  have h2 := nat_Shl.size_end 3 [m]
  have e2 : rd [m] (1 - 1) = m := rfl
  rw [e2] at h1
  refine h1.trans ?_
  by_cases h : m = 0
  · rw [if_pos h, if_pos h]; exact h2
  · rw [if_neg h, if_neg h]
theorem nat_Shl.size_two (Q : Nat) (v t : Int) (hQ : Q ≤ 1000) (h : v ≠ 0 ∨ t ≠ 0) : nat_size.f 5 (List.replicate Q 0 ++ [v, t]) = some (if t = 0 then ((Q + 1 : Nat) : Int) else ((Q + 2 : Nat) : Int)) := by
  have hl : (((List.replicate Q (0:Int) ++ [v, t]).length : Nat) : Int) = (Q : Int) + 2 := by simp
  have e1 : rd (List.replicate Q (0:Int) ++ [v, t]) ((Q:Int) + 2 - 1) = t := by
    unfold rd
    rw [show ((Q:Int) + 2 - 1).toNat = Q + 1 from by omega]
    simp
  have e0 : rd (List.replicate Q (0:Int) ++ [v, t]) ((Q:Int) + 2 - 1 - 1) = v := by
    unfold rd
    rw [show ((Q:Int) + 2 - 1 - 1).toNat = Q from by omega]
    simp
  have h1 := nat_Shl.size_step 4 (List.replicate Q (0:Int) ++ [v, t]) ((Q : Int) + 2) (by omega) (by omega) (by omega)
  have h2 := nat_Shl.size_step 3 (List.replicate Q (0:Int) ++ [v, t]) ((Q : Int) + 2 - 1) (by omega) (by omega) (by omega)
  rw [e1] at h1
  rw [e0] at h2
  unfold nat_size.f
  rw [hl, h1]
  by_cases ht : t = 0
  · have hv : v ≠ 0 := by rcases h with h | h; exact h; exact absurd ht h
    rw [if_pos ht, if_pos ht, h2, if_neg hv]
    congr 1
    omega
  · rw [if_neg ht, if_neg ht]
    congr 1
theorem nat_Shl.bits_one (m : Nat) (h0 : m ≠ 0) (hm : m < 18446744073709551616) : ∃ b : Int, nat_Bits.f 9 [(m : Int)] = some b ∧ 0 ≤ b ∧ b ≤ 64 := by
  obtain ⟨L, h1, _, h3⟩ := len_spec m 9 hm (by omega)
  have e : nat_size.f 9 [(m : Int)] = some 1 := by
    have := nat_Shl.size_one (m : Int)
    rw [if_neg (by omega)] at this
    exact nat_size.mono [(m : Int)] 8 _ (nat_size.mono [(m : Int)] 7 _ (nat_size.mono [(m : Int)] 6 _ (nat_size.mono [(m : Int)] 5 _ this)))
  refine ⟨(L : Int), ?_, by omega, by omega⟩
  unfold nat_Bits.f
  rw [e, Option.bind_some, if_neg (by decide)]
  have e1 : wrap64 ((1 : Int) - 1) = 0 := by unfold wrap64; omega
  have e2 : rd [(m : Int)] 0 = (m : Int) := rfl
  rw [e1, e2, if_pos (by omega), if_pos (by simp), h1, Option.bind_some]
  congr 1
  unfold wrap64
  omega
set_option maxHeartbeats 4000000 in
set_option maxRecDepth 100000 in
theorem nat_Shl_within (n : Int) (w : World) (hn : 0 ≤ n ∧ n ≤ 128) : Calls Try.prog 45 #[.int .i64 n] w fun e w' => e = .returned (.int .i64 n) ∧ w' = w := by
  have q1 : (n < 0) = False := by simp; omega
  have q2 : (128 < n) = False := by simp; omega
  have q3 : (0 < n ∨ n = 0) := by omega
  go_enter Try.func45, Try.ntmps45
  go_wp2_with fail
  go_ret
  exact ⟨rfl, rfl⟩
set_option maxHeartbeats 4000000 in
set_option maxRecDepth 100000 in
theorem nat_Shl_two (x y k s t v : Int) (w : World) (hk : 0 < k ∧ k < 64) (h1 : shl .u64 x k = s) (h2 : shr .u64 y (64 - k) = t) (h3 : shl .u64 y k = v) : Calls Try.prog 42 #[.int .u64 x, .int .u64 y, .int .i64 k] w fun e w' => e = .returned (.tuple #[.int .u64 (Go.bits .or .u64 s t), .int .u64 v]) ∧ ∃ m, w' = w.drewN m := by
  have h1_ : (IntKind.u64.wrap (x * 2 ^ min k.toNat 64)) = s := h1
  have h1z : k ≤ 64 → (IntKind.u64.wrap (x * 2 ^ k.toNat)) = s := shl_small h1
  have h2_ : (y / 2 ^ min (64 - k).toNat 64) = t := h2
  have h2z : (64 - k) ≤ 64 → (y / 2 ^ (64 - k).toNat) = t := shr_small h2
  have h3_ : (IntKind.u64.wrap (y * 2 ^ min k.toNat 64)) = v := h3
  have h3z : k ≤ 64 → (IntKind.u64.wrap (y * 2 ^ k.toNat)) = v := shl_small h3
  have q1 : (64 ≤ k) = False := by simp; omega
  have q4 : wrap64 (64 - k) = 64 - k := by unfold wrap64; omega
  have q7 : IntKind.i64.wrap (64 - k) = 64 - k := (i64_w _).trans q4
  have q5 : (0 ≤ 64 - k) = True := by simp; omega
  have q6 : (0 ≤ k) = True := by simp; omega
  have q8 : decide (0 ≤ k) = true := by simp; omega
  have q9 : decide (0 ≤ 64 - k) = true := by simp; omega
  clear h1 h2 h3
  go_enter Try.func42, Try.ntmps42
  go_wp2_with fail
  refine (nat_Shl_within _ _ (by omega)).mono ?_
  rintro e1 w1 ⟨rfl, rfl⟩
  go_wp2_with fail
  go_quiet (fail)
  go_wp2_with fail
  go_ret2
  exact ⟨by rw [← h1z (by omega), ← h2z (by omega), ← h3z (by omega)]; rfl, _, rfl⟩
theorem nat_Shl_sh_info : (Try.prog.info? 22).map (fun i => (i.zero, i.size, i.bytes)) = some (some (.int .u64 0), 1, 8) := by kernel_rfl
def nat_Shl_sh_stop (p : Prop) : Prop := p
theorem nat_Shl_sh_put_stop {p : Prop} (h : nat_Shl_sh_stop p) : p := h
set_option maxHeartbeats 4000000 in
set_option maxRecDepth 100000 in
theorem nat_Shl_bound (K : Nat) (A0 : Option Addr) (c0 : Nat) (l : List Int) (s : Nat) (w : World) (hr0 : Kd.C (Kd.int .u64) w A0 l.length l) (hc0 : l.length ≤ c0) (hs : nat_size.f K l = some (s : Int)) (hsl : s ≤ l.length) (hl : s ≤ 4096) :
    Calls Try.prog 43 #[.slice A0 l.length c0] w fun e w' => e = .returned (.tuple #[.slice A0 s s, .int .i64 0]) ∧ Drawn0 w w' := by
  have H1 := Aside0.mk hr0
  have H2 := Aside0.mk hc0
  have H3 := Aside0.mk hs
  have hsl' : s ≤ c0 := Nat.le_trans hsl hc0
  have q1 : ((s : Int) ≤ 4096) = True := by simp; omega
  have q2 : ((s:Int) ≤ (l.length : Int)) = True := by simp; omega
  have q3 : ((s:Int) ≤ (c0 : Int)) = True := by simp; omega
  have q4 : (0 ≤ (s:Int)) = True := by simp
  clear hr0 hc0 hs hsl
  go_enter Try.func43, Try.ntmps43
  go_wp2_with fail
  refine (nat_size.calls _ _ _ _ _ _ H1.out H2.out H3.out).mono ?_
  rintro e1 w1 ⟨rfl, hd⟩
  have HD := Aside0.mk hd
  clear hd
  go_wp2_with fail
  go_ret2
  exact ⟨rfl, HD.out⟩
theorem nat_Shl_sh_cells (Q : Nat) (m : Int) (zs ys : List Int) (hz : List.replicate ((Q:Int) + 1 + 1).toNat (0 : Int) = zs) (hy : zs.take Q ++ (([m] : List Int).take (zs.length - Q) ++ zs.drop (Q + 1)) = ys) : ys = List.replicate Q 0 ++ [m, 0] := by
  rw [← hy, ← hz, show ((Q:Int) + 1 + 1).toNat = Q + 2 from by omega, List.length_replicate, show Q + 2 - Q = 2 from by omega, List.take_replicate, List.drop_replicate, Nat.min_eq_left (by omega), show Q + 2 - (Q + 1) = 1 from by omega]
  rfl
theorem nat_Shl_or0 (t : Int) (h : 0 ≤ t ∧ t < 18446744073709551616) : Go.bits .or .u64 0 t = t := by
  obtain ⟨n, rfl⟩ := Int.eq_ofNat_of_zero_le h.1
  have := orN_add 0 n 0 (by simp) (by omega)
  simpa using this
theorem nat_Shl_sh_end (Q : Nat) (P m t v k s1 t1 v2 x0 x1 x2 : Int) (ys : List Int) (hP : (Q:Int) + 2 - 1 = P) (hy : ys = List.replicate Q 0 ++ [m, 0]) (ht2 : 0 ≤ t ∧ t < 18446744073709551616) (h1 : rdOf 0 ys P = x1) (h0 : rdOf 0 ys (Q:Int) = x0) (ht : shr .u64 m (64 - k) = t) (hv : shl .u64 m k = v)
    (hs1 : shl .u64 x1 k = s1) (ht1 : shr .u64 x0 (64 - k) = t1) (h2 : rdOf 0 (ys.set P.toNat (Go.bits .or .u64 s1 t1)) (Q:Int) = x2) (hv2 : shl .u64 x2 k = v2) :
    ((ys.set P.toNat (Go.bits .or .u64 s1 t1)).set ((Q:Int)).toNat v2) = List.replicate Q 0 ++ [v, t] := by
  have hPn : P.toNat = Q + 1 := by omega
  have hx1 : x1 = 0 := by rw [← h1, hy]; simp [rdOf, hPn]
  have hx0 : x0 = m := by rw [← h0, hy]; simp [rdOf]
  subst hx1 hx0
  have hs : s1 = 0 := by rw [← hs1]; simp [shl, IntKind.wrap]; try decide
  rw [ht] at ht1
  subst hs ht1
  rw [nat_Shl_or0 t ht2] at h2 ⊢
  rw [hPn] at h2 ⊢
  have e1 : ys.set (Q + 1) t = List.replicate Q 0 ++ [x0, t] := by rw [hy, List.set_append_right _ _ (by simp), List.length_replicate, show Q + 1 - Q = 1 from by omega]; rfl
  rw [e1] at h2 ⊢
  have hx2 : x2 = x0 := by rw [← h2]; simp [rdOf]
  subst hx2
  rw [hv] at hv2
  subst hv2
  rw [Int.toNat_natCast, List.set_append_right _ _ (by simp), List.length_replicate, Nat.sub_self]
  rfl
set_option maxHeartbeats 4000000 in
set_option maxRecDepth 100000 in
theorem nat_Shl_some (K : Nat) (A0 : Option Addr) (c0 s : Nat) (m n q k b t v : Int) (w : World) (hr0 : Kd.C (Kd.int .u64) w A0 1 [m]) (hc0 : 1 ≤ c0) (hz : nat_size.f K [m] = some 1) (hB : nat_Bits.f K [m] = some b) (hb : 0 ≤ b ∧ b ≤ 64) (hn : 0 ≤ n ∧ n ≤ 6000) (hq : n / 64 = q) (hk : n % 64 = k) (hk0 : k ≠ 0) (ht : shr .u64 m (64 - k) = t) (hv : shl .u64 m k = v) (ht2 : 0 ≤ t ∧ t < 18446744073709551616) (hS : nat_size.f K (List.replicate q.toNat 0 ++ [v, t]) = some (s : Int)) (hs : s ≤ q + 2) :
    Calls Try.prog 32 #[.slice A0 1 c0, .int .i64 n] w fun e w' => ∃ g : Nat, e = .returned (.tuple #[.slice (some ⟨g, 0, none⟩) s s, .int .i64 0]) ∧ Kd.C (Kd.int .u64) w' (some ⟨g, 0, none⟩) s ((List.replicate q.toNat 0 ++ [v, t]).take s) ∧ w.heap.size ≤ g ∧ Below w.heap.size w w' := by
  have H1 := Aside0.mk hr0
  have H2 := Aside0.mk hc0
  have H3 := Aside0.mk hz
  have H4 := Aside0.mk hB
  have q1 : ((1:Int) ≤ (c0:Int)) = True := by simp; omega
  have q2 : (n < 0) = False := by simp; omega
  have q3 : (262144 - b < n) = False := by simp; omega
  have q4 : wrap64 (262144 - b) = 262144 - b := by unfold wrap64; omega
  have q5 : n.tdiv 64 = q := by rw [Int.tdiv_eq_ediv_of_nonneg hn.1]; exact hq
  have q6 : n.tmod 64 = k := by rw [Int.tmod_eq_emod_of_nonneg hn.1]; exact hk
  have q7 : wrap64 (q + 1) = q + 1 := by unfold wrap64; omega
  have q8 : wrap64 (q + 1 + 1) = q + 2 := by unfold wrap64; omega
  have HT := Aside0.mk ht
  have HV := Aside0.mk hv
  have HT2 := Aside0.mk ht2
  have HS := Aside0.mk hS
  have HSL := Aside0.mk hs
  clear hr0 hc0 hz hB ht hv ht2 hS hs
  go_enter Try.func32, Try.ntmps32
  go_wp2_with fail
  refine (nat_size.calls _ _ _ _ _ _ H1.out H2.out H3.out).mono ?_
  rintro e1 w1 ⟨rfl, ⟨nd, rfl⟩⟩
  go_wp2_with fail
  refine (nat_Bits.calls _ _ _ _ _ _ (Kd.C_drewN H1.out _) H2.out H4.out).mono ?_
  rintro e2 w2 ⟨rfl, ⟨nd2, rfl⟩⟩
  clear H3 H4
  have H5 := Aside0.mk hn
  have H6 := Aside0.mk hk
  have hq0 : 0 ≤ q ∧ q ≤ 93 := by omega
  obtain ⟨Q, rfl⟩ := Int.eq_ofNat_of_zero_le hq0.1
  have q9 : (0 ≤ (Q:Int)) = True := by simp
  obtain ⟨P, hP⟩ : ∃ P : Int, (Q:Int) + 2 - 1 = P := ⟨_, rfl⟩
  have r1 : wrap64 (P - 1) = (Q:Int) := by unfold wrap64; omega
  have r2 : IntKind.i64.wrap (P - 1) = (Q:Int) := (i64_w _).trans r1
  have r3 : (0 ≤ P) = True := by simp; omega
  have r4 : (P < (Q:Int) + 2) = True := by simp; omega
  have r6 : ((Q:Int) < (Q:Int) + 2) = True := by simp; omega
  have r5 : ((Q:Int) < P) = True := by simp; omega
  have q10 : ((Q:Int) ≤ ((Q+2 : Nat):Int)) = True := by simp; omega
  go_wp2_with ((with_reducible refine gate_dst (N := 32) rfl ?_); refine nat_Shl_sh_put_stop ?_)
  unfold nat_Shl_sh_stop
  refine Kd.R_make (Kd.int .u64) (w0 := w) w.heap.size 22 rfl (N := 32) rfl 54 _ _ rfl ((Q:Int) + 1 + 1) rfl rfl Try.underlying54 (.int .u64 0) 8 nat_Shl_sh_info rfl (by decide) (by omega) 0 (ok := fun _ => True) (okp := fun _ => False) rfl (fun _ h => h.elim) True.intro (by omega) ?aL (pw_below_drewN (Below.refl _ _) _) (Nat.le_refl _) ?_
  case aL => omega
  intro v1 w1 ho hb hg hat
  obtain ⟨zs, hzs, hzl⟩ : ∃ zs, List.replicate ((Q:Int) + 1 + 1).toNat (0 : Int) = zs ∧ zs.length = Q + 2 := ⟨_, rfl, by rw [List.length_replicate]; omega⟩
  rw [hzs] at ho
  obtain ⟨g, cap, rfl⟩ := Go.Proofs.Ytpnndhbeahajkaa.Math.R_shape ho hat
  have hcap : Q + 2 ≤ cap := by have := (Kd.R_reads' ho).2.1; omega
  have q11 : ((Q:Int) ≤ (cap:Int)) = True := by simp; omega
  have q12 : ((Q:Int) ≤ (zs.length:Int)) = True := by simp; omega
  have q13 : ((zs.length:Int) ≤ (cap:Int)) = True := by simp; omega
  have HO := Aside0.mk ho
  have HB := Aside0.mk hb
  have HZ := Aside0.mk hzs
  have HZL := Aside0.mk hzl
  clear ho hb hg hat hzs hzl
  go_wp2_with ((with_reducible refine gate_builtin (b := .copy) (xs := #[.tmp 36, .tmp 37]) rfl ?_); refine nat_Shl_sh_put_stop ?_)
  unfold nat_Shl_sh_stop
  refine Go.Proofs.Ytpnndhbeahajkaa.Math.R_copyAt (w0 := w) (base := w.heap.size) 0 rfl (.tmp 36) (.tmp 37) 54 rfl Try.underlying54 (e := 22) (by kernel_rfl) zs [m] A0 1 c0 Q (zs.length - Q) (cap - Q) rfl (by rw [HZL.out]; omega) rfl HO.out (Kd.C_below H1.out HB.out) HB.out ?_
  intro w2 ho hb hg
  rw [show min 1 (zs.length - Q) = 1 from by rw [HZL.out]; omega]
  have hzl := HZL.out
  obtain ⟨ys, hys⟩ : ∃ ys, zs.take Q ++ (([m] : List Int).take (zs.length - Q) ++ zs.drop (Q + 1)) = ys := ⟨_, rfl⟩
  rw [hys, hzl] at ho
  have HY := Aside0.mk hys
  have HP := Aside0.mk ho
  have HB2 := Aside0.mk hb
  clear ho hb hg hys HO HB
  rw [hzl]
  go_wp2_with fail
  refine wp_loop_rounds 3 ?_
  rw [rounds_succ]
  obtain ⟨x1, hx1⟩ : ∃ x, rdOf 0 ys P = x := ⟨_, rfl⟩
  obtain ⟨x0, hx0⟩ : ∃ x, rdOf 0 ys (Q:Int) = x := ⟨_, rfl⟩
  obtain ⟨hy1, hz1⟩ := Kd.R_celln (0 : Int) HP.out P (by omega) (by omega)
  obtain ⟨hy0, hz0⟩ := Kd.R_celln (0 : Int) HP.out (Q:Int) (by omega) (by omega)
  rw [hx1] at hy1
  rw [hx0] at hy0
  simp only [Int.toNat_natCast] at hy0 hz0
  go_wp2_with fail
  obtain ⟨s1, hs1⟩ : ∃ s, shl .u64 x1 k = s := ⟨_, rfl⟩
  obtain ⟨t1, ht1⟩ : ∃ s, shr .u64 x0 (64 - k) = s := ⟨_, rfl⟩
  obtain ⟨v1, hv1⟩ : ∃ s, shl .u64 x0 k = s := ⟨_, rfl⟩
  have hkk : 0 < k ∧ k < 64 := by omega
  have HK := Aside0.mk (fun w => nat_Shl_two x1 x0 k s1 t1 v1 w hkk hs1 ht1 hv1)
  have A1 := Aside0.mk hs1
  have A2 := Aside0.mk ht1
  have A4 := Aside0.mk hx1
  have A5 := Aside0.mk hx0
  clear hs1 ht1 hv1 hx1 hx0
  go_region_law (first | (go_simp; go_at_call 42; refine (HK.out _).mono ?_; rintro e3 w3 ⟨rfl, ⟨nd3, rfl⟩⟩))
  all_goals (
    have HQ := Aside0.mk (Kd.R_putg (Kd.R_drewN HP.out (1 + nd3)) P (Go.bits .or .u64 s1 t1))
    have HC := Aside0.mk (below_set (v := .int .u64 (Go.bits .or .u64 s1 t1)) (j := P.toNat) (pw_below_drewN HB2.out (1 + nd3)) (Kd.R_base HP.out g rfl))
    obtain ⟨w3, hw⟩ : ∃ w3, (w2.drewN (1 + nd3)).setCell ⟨g, P.toNat, none⟩ (.int .u64 (Go.bits .or .u64 s1 t1)) = w3 := ⟨_, rfl⟩
    have hq := HQ.out.1
    rw [hw] at hq ⊢
    have HP1 := Aside0.mk hq
    have hc := HC.out
    rw [hw] at hc
    have HB3 := Aside0.mk hc
    clear hq hc hw hy0 hz0 hy1 hz1 HQ HC HP HB2
    go_wp2_with fail
    rw [rounds_succ]
    obtain ⟨x2, hx2⟩ : ∃ x, rdOf 0 (ys.set P.toNat (Go.bits .or .u64 s1 t1)) (Q:Int) = x := ⟨_, rfl⟩
    obtain ⟨hy2, hz2⟩ := Kd.R_celln (0 : Int) HP1.out (Q:Int) (by omega) (by omega)
    rw [hx2] at hy2
    simp only [Int.toNat_natCast] at hy2 hz2
    obtain ⟨v2, hv2⟩ : ∃ s, shl .u64 x2 k = s := ⟨_, rfl⟩
    have h3_ : (IntKind.u64.wrap (x2 * 2 ^ min k.toNat 64)) = v2 := hv2
    have h3z : (IntKind.u64.wrap (x2 * 2 ^ k.toNat)) = v2 := shl_small hv2 (by simp [IntKind.bits]; omega)
    have r7 : ¬ ((Q:Int) < (Q:Int)) := by omega
    have r8 : decide (0 ≤ k) = true := by simp; omega
    have r9 : (0 ≤ k) = True := by simp; omega
    have HQ := Aside0.mk (Kd.R_putg HP1.out (Q:Int) v2)
    have HC := Aside0.mk (below_set (v := .int .u64 v2) (j := ((Q:Int)).toNat) HB3.out (Kd.R_base HP1.out g rfl))
    go_wp2_with ((with_reducible refine gate_store (t := 22) (p := 76) rfl ?_); refine nat_Shl_sh_put_stop ?_)
    unfold nat_Shl_sh_stop
    refine store_event (t := 22) (p := 76) (v := .tmp 75) (w1 := w3.setCell ⟨g, ((Q:Int)).toNat, none⟩ (.int .u64 v2)) rfl rfl rfl (by first | (go_simp; done) | (go_simp; rfl) | (rw [← h3z]; go_simp; first | done | rfl)) ?_
    intro w4 hw
    have hq := HQ.out.1
    rw [← hw] at hq
    have hc := HC.out
    rw [← hw] at hc
    have HB4 := Aside0.mk hc
    rw [nat_Shl_sh_end Q P m t v k s1 t1 v2 x0 x1 x2 ys hP (nat_Shl_sh_cells Q m zs ys HZ.out HY.out) HT2.out A4.out A5.out HT.out HV.out A1.out A2.out hx2 hv2] at hq
    obtain ⟨fin, hfin⟩ : ∃ fin, List.replicate Q (0:Int) ++ [v, t] = fin := ⟨_, rfl⟩
    have hfl : fin.length = Q + 2 := by rw [← hfin]; simp
    have hS := HS.out
    simp only [Int.toNat_natCast] at hS
    rw [hfin] at hq hS
    rw [← hfl] at hq
    have HP4 := Aside0.mk hq
    have HS2 := Aside0.mk hS
    have HF := Aside0.mk hfl
    have HFI := Aside0.mk hfin
    clear hq hc hw hy2 hz2 HQ HC HP1 HB3 hS hfl hfin
    rw [← HF.out]
    go_wp2_with fail
    refine (nat_Shl_bound K _ _ fin s _ (Kd.R_reads' HP4.out).2.2 (Kd.R_reads' HP4.out).2.1 HS2.out (by have := HSL.out; have := HF.out; omega) (by have := HSL.out; omega)).mono ?_
    rintro e5 w5 ⟨rfl, ⟨nd5, rfl⟩⟩
    go_wp2_with fail
    go_ret2
    refine ⟨g, rfl, ?_, Kd.R_base HP4.out g rfl, pw_below_drewN HB4.out _⟩
    have hsl : s ≤ fin.length := by have := HSL.out; have := HF.out; omega
    have e := Kd.C_drewN (Kd.C_take (m := s) (Kd.R_reads' HP4.out).2.2 hsl) nd5
    rw [List.length_take, Nat.min_eq_left hsl, ← HFI.out] at e
    exact e)
set_option maxHeartbeats 4000000 in
set_option maxRecDepth 100000 in
theorem nat_Shl_whole (K : Nat) (A0 : Option Addr) (c0 s : Nat) (m n q k b : Int) (w : World) (hr0 : Kd.C (Kd.int .u64) w A0 1 [m]) (hc0 : 1 ≤ c0) (hz : nat_size.f K [m] = some 1) (hB : nat_Bits.f K [m] = some b) (hb : 0 ≤ b ∧ b ≤ 64) (hn : 0 ≤ n ∧ n ≤ 6000) (hq : n / 64 = q) (hk : n % 64 = k) (hk0 : k = 0) (hS : nat_size.f K (List.replicate q.toNat 0 ++ [m, 0]) = some (s : Int)) (hs : s ≤ q + 2) :
    Calls Try.prog 32 #[.slice A0 1 c0, .int .i64 n] w fun e w' => ∃ g : Nat, e = .returned (.tuple #[.slice (some ⟨g, 0, none⟩) s s, .int .i64 0]) ∧ Kd.C (Kd.int .u64) w' (some ⟨g, 0, none⟩) s ((List.replicate q.toNat 0 ++ [m, 0]).take s) ∧ w.heap.size ≤ g ∧ Below w.heap.size w w' := by
  have H1 := Aside0.mk hr0
  have H2 := Aside0.mk hc0
  have H3 := Aside0.mk hz
  have H4 := Aside0.mk hB
  have q1 : ((1:Int) ≤ (c0:Int)) = True := by simp; omega
  have q2 : (n < 0) = False := by simp; omega
  have q3 : (262144 - b < n) = False := by simp; omega
  have q4 : wrap64 (262144 - b) = 262144 - b := by unfold wrap64; omega
  have q5 : n.tdiv 64 = q := by rw [Int.tdiv_eq_ediv_of_nonneg hn.1]; exact hq
  have q6 : n.tmod 64 = k := by rw [Int.tmod_eq_emod_of_nonneg hn.1]; exact hk
  have q7 : wrap64 (q + 1) = q + 1 := by unfold wrap64; omega
  have q8 : wrap64 (q + 1 + 1) = q + 2 := by unfold wrap64; omega
  have HS := Aside0.mk hS
  have HSL := Aside0.mk hs
  clear hr0 hc0 hz hB hS hs
  go_enter Try.func32, Try.ntmps32
  go_wp2_with fail
  refine (nat_size.calls _ _ _ _ _ _ H1.out H2.out H3.out).mono ?_
  rintro e1 w1 ⟨rfl, ⟨nd, rfl⟩⟩
  go_wp2_with fail
  refine (nat_Bits.calls _ _ _ _ _ _ (Kd.C_drewN H1.out _) H2.out H4.out).mono ?_
  rintro e2 w2 ⟨rfl, ⟨nd2, rfl⟩⟩
  clear H3 H4
  have H5 := Aside0.mk hn
  have H6 := Aside0.mk hk
  have hq0 : 0 ≤ q ∧ q ≤ 93 := by omega
  obtain ⟨Q, rfl⟩ := Int.eq_ofNat_of_zero_le hq0.1
  have q9 : (0 ≤ (Q:Int)) = True := by simp
  obtain ⟨P, hP⟩ : ∃ P : Int, (Q:Int) + 2 - 1 = P := ⟨_, rfl⟩
  have r1 : wrap64 (P - 1) = (Q:Int) := by unfold wrap64; omega
  have r2 : IntKind.i64.wrap (P - 1) = (Q:Int) := (i64_w _).trans r1
  have r3 : (0 ≤ P) = True := by simp; omega
  have r4 : (P < (Q:Int) + 2) = True := by simp; omega
  have r6 : ((Q:Int) < (Q:Int) + 2) = True := by simp; omega
  have r5 : ((Q:Int) < P) = True := by simp; omega
  have q10 : ((Q:Int) ≤ ((Q+2 : Nat):Int)) = True := by simp; omega
  go_wp2_with ((with_reducible refine gate_dst (N := 32) rfl ?_); refine nat_Shl_sh_put_stop ?_)
  unfold nat_Shl_sh_stop
  refine Kd.R_make (Kd.int .u64) (w0 := w) w.heap.size 22 rfl (N := 32) rfl 54 _ _ rfl ((Q:Int) + 1 + 1) rfl rfl Try.underlying54 (.int .u64 0) 8 nat_Shl_sh_info rfl (by decide) (by omega) 0 (ok := fun _ => True) (okp := fun _ => False) rfl (fun _ h => h.elim) True.intro (by omega) ?aL (pw_below_drewN (Below.refl _ _) _) (Nat.le_refl _) ?_
  case aL => omega
  intro v1 w1 ho hb hg hat
  obtain ⟨zs, hzs, hzl⟩ : ∃ zs, List.replicate ((Q:Int) + 1 + 1).toNat (0 : Int) = zs ∧ zs.length = Q + 2 := ⟨_, rfl, by rw [List.length_replicate]; omega⟩
  rw [hzs] at ho
  obtain ⟨g, cap, rfl⟩ := Go.Proofs.Ytpnndhbeahajkaa.Math.R_shape ho hat
  have hcap : Q + 2 ≤ cap := by have := (Kd.R_reads' ho).2.1; omega
  have q11 : ((Q:Int) ≤ (cap:Int)) = True := by simp; omega
  have q12 : ((Q:Int) ≤ (zs.length:Int)) = True := by simp; omega
  have q13 : ((zs.length:Int) ≤ (cap:Int)) = True := by simp; omega
  have HO := Aside0.mk ho
  have HB := Aside0.mk hb
  have HZ := Aside0.mk hzs
  have HZL := Aside0.mk hzl
  clear ho hb hg hat hzs hzl
  go_wp2_with ((with_reducible refine gate_builtin (b := .copy) (xs := #[.tmp 36, .tmp 37]) rfl ?_); refine nat_Shl_sh_put_stop ?_)
  unfold nat_Shl_sh_stop
  refine Go.Proofs.Ytpnndhbeahajkaa.Math.R_copyAt (w0 := w) (base := w.heap.size) 0 rfl (.tmp 36) (.tmp 37) 54 rfl Try.underlying54 (e := 22) (by kernel_rfl) zs [m] A0 1 c0 Q (zs.length - Q) (cap - Q) rfl (by rw [HZL.out]; omega) rfl HO.out (Kd.C_below H1.out HB.out) HB.out ?_
  intro w2 ho hb hg
  rw [show min 1 (zs.length - Q) = 1 from by rw [HZL.out]; omega]
  have hzl := HZL.out
  obtain ⟨ys, hys⟩ : ∃ ys, zs.take Q ++ (([m] : List Int).take (zs.length - Q) ++ zs.drop (Q + 1)) = ys := ⟨_, rfl⟩
  rw [hys, hzl] at ho
  have HY := Aside0.mk hys
  have HP := Aside0.mk ho
  have HB2 := Aside0.mk hb
  clear ho hb hg hys HO HB
  rw [hzl]
  have HP0 := HP.out
  rw [nat_Shl_sh_cells Q m zs ys HZ.out HY.out] at HP0
  obtain ⟨fin, hfin⟩ : ∃ fin, List.replicate Q (0:Int) ++ [m, 0] = fin := ⟨_, rfl⟩
  have hfl : fin.length = Q + 2 := by rw [← hfin]; simp
  have hS := HS.out
  simp only [Int.toNat_natCast] at hS
  rw [hfin] at HP0 hS
  rw [← hfl] at HP0
  have HP4 := Aside0.mk HP0
  have HS2 := Aside0.mk hS
  have HF := Aside0.mk hfl
  have HFI := Aside0.mk hfin
  clear HP HP0 hS hfl hfin
  rw [← HF.out]
  go_wp2_with fail
  refine (nat_Shl_bound K _ _ fin s _ (Kd.R_reads' HP4.out).2.2 (Kd.R_reads' HP4.out).2.1 HS2.out (by have := HSL.out; have := HF.out; omega) (by have := HSL.out; omega)).mono ?_
  rintro e5 w5 ⟨rfl, ⟨nd5, rfl⟩⟩
  go_wp2_with fail
  go_ret2
  refine ⟨g, rfl, ?_, Kd.R_base HP4.out g rfl, pw_below_drewN HB2.out _⟩
  have hsl : s ≤ fin.length := by have := HSL.out; have := HF.out; omega
  have e := Kd.C_drewN (Kd.C_take (m := s) (Kd.R_reads' HP4.out).2.2 hsl) nd5
  rw [List.length_take, Nat.min_eq_left hsl, ← HFI.out] at e
  exact e
set_option maxHeartbeats 4000000 in
set_option maxRecDepth 100000 in
theorem nat_Shl_none (K : Nat) (A0 : Option Addr) (c0 : Nat) (m n : Int) (w : World) (hr0 : Kd.C (Kd.int .u64) w A0 1 [m]) (hc0 : 1 ≤ c0) (hz : nat_size.f K [m] = some 0) (hn : 0 ≤ n) :
    Calls Try.prog 32 #[.slice A0 1 c0, .int .i64 n] w fun e w' => e = .returned (.tuple #[.slice none 0 0, .int .i64 0]) ∧ Below w.heap.size w w' := by
  have H1 := Aside0.mk hr0
  have H2 := Aside0.mk hc0
  have H3 := Aside0.mk hz
  have q1 : ((0:Int) ≤ (c0:Int)) = True := by simp
  have q2 : (n < 0) = False := by simp; omega
  clear hr0 hc0 hz
  go_enter Try.func32, Try.ntmps32
  go_wp2_with fail
  refine (nat_size.calls _ _ _ _ _ _ H1.out H2.out H3.out).mono ?_
  rintro e1 w1 ⟨rfl, ⟨nd, rfl⟩⟩
  go_wp2_with fail
  go_ret2
  exact ⟨rfl, pw_below_drewN (Below.refl _ _) _⟩
theorem nat_Shl.parts (M k : Nat) (v t : Int) (hM : M ≠ 0) (hM2 : M < 18446744073709551616) (hv : v = shl .u64 (M : Int) (k : Int)) (ht : t = shr .u64 (M : Int) (64 - (k : Int))) (hk : k < 64) : (v ≠ 0 ∨ t ≠ 0) ∧ 0 ≤ t ∧ t < 18446744073709551616 := by
  have e1 : v = ((M * 2 ^ k % 18446744073709551616 : Nat) : Int) := by
    rw [hv, shlN M k (by omega)]
  have e2 : t = ((M / 2 ^ (64 - k) : Nat) : Int) := by
    rw [ht, show (64 : Int) - (k : Int) = ((64 - k : Nat) : Int) from by omega, shrN M (64 - k) (by omega)]
  have h2 : M / 2 ^ (64 - k) ≤ M := Nat.div_le_self _ _
  obtain ⟨u, hu⟩ : ∃ u, M / 2 ^ (64 - k) = u := ⟨_, rfl⟩
  rw [hu] at h2 e2
  refine ⟨?_, by omega, by omega⟩
  rw [← hu] at e2
  rcases Nat.eq_zero_or_pos (M / 2 ^ (64 - k)) with hz | hz
  · left
    have hp : 0 < 2 ^ (64 - k) := Nat.two_pow_pos _
    have hlt : M < 2 ^ (64 - k) := by
      rcases Nat.div_eq_zero_iff.1 hz with h | h
      · omega
      · exact h
    have hm : M * 2 ^ k < 18446744073709551616 := by
      have := Nat.mul_lt_mul_of_pos_right hlt (Nat.two_pow_pos k)
      rw [← Nat.pow_add, show 64 - k + k = 64 from by omega] at this
      simpa using this
    have hpos : 0 < M * 2 ^ k := Nat.mul_pos (by omega) (Nat.two_pow_pos k)
    rw [e1, Nat.mod_eq_of_lt hm]
    omega
  · right
    omega
set_option maxHeartbeats 1000000 in
theorem nat_Shl.calls (A0 : Option Addr) (c0 : Nat) (l0 : List Int) (n : Int) (r : List Int) (r1 : Int) (w : World) (hr0 : Kd.C (Kd.int .u64) w A0 l0.length l0) (hc0 : l0.length ≤ c0) (h : nat_Shl.f l0 n = some (r, r1)) :
    Calls Try.prog 32 #[.slice A0 l0.length c0, .int .i64 n] w fun e w' => ∃ v0_ : Value, e = .returned (.tuple #[v0_, .int .i64 r1]) ∧ nat_Shl.RC w' v0_ r ∧ Below w.heap.size w w' := by
  match l0, h with
  | [], h => simp [nat_Shl.f] at h
  | _ :: _ :: _, h => simp [nat_Shl.f] at h
  | [m], h =>
    simp only [nat_Shl.f] at h
    by_cases c : (0 ≤ n ∧ n ≤ 6000) ∧ 0 ≤ m ∧ m < 18446744073709551616
    · rw [if_pos c] at h
      simp only [Option.some.injEq, Prod.mk.injEq] at h
      obtain ⟨hr, rfl⟩ := h
      obtain ⟨hn, hm0, hm1⟩ := c
      by_cases h0 : m = 0
      · have hz := nat_Shl.size_one m
        rw [if_pos h0] at hz
        refine (nat_Shl_none 5 A0 c0 m n w hr0 hc0 hz hn.1).mono ?_
        rintro e w' ⟨rfl, hb⟩
        refine ⟨_, rfl, ?_, hb⟩
        rw [← hr]
        unfold nat_Shl.out
        rw [if_pos h0]
        exact ⟨none, 0, rfl, Nat.le_refl _, Kd.C_nil _ _⟩
      · have hz := nat_Shl.size_one m
        rw [if_neg h0] at hz
        obtain ⟨M, rfl⟩ := Int.eq_ofNat_of_zero_le hm0
        obtain ⟨b, hB, hb⟩ := nat_Shl.bits_one M (by omega) (by omega)
        have hz9 : nat_size.f 9 [(M : Int)] = some 1 := nat_size.mono [(M : Int)] 8 _ (nat_size.mono [(M : Int)] 7 _ (nat_size.mono [(M : Int)] 6 _ (nat_size.mono [(M : Int)] 5 _ hz)))
        obtain ⟨q, hq⟩ : ∃ q, n / 64 = q := ⟨_, rfl⟩
        obtain ⟨k, hk⟩ : ∃ k, n % 64 = k := ⟨_, rfl⟩
        obtain ⟨t, ht⟩ : ∃ t, shr .u64 (M : Int) (64 - k) = t := ⟨_, rfl⟩
        obtain ⟨v, hv⟩ : ∃ v, shl .u64 (M : Int) k = v := ⟨_, rfl⟩
        have hq0 : 0 ≤ q ∧ q ≤ 93 := by omega
        have hk6 : 0 ≤ k ∧ k < 64 := by omega
        obtain ⟨hv0, ht0⟩ := nat_Shl.parts M k.toNat v t (by omega) (by omega) (by rw [← hv, Int.toNat_of_nonneg hk6.1]) (by rw [← ht, Int.toNat_of_nonneg hk6.1]) (by omega)
        have hS5 := nat_Shl.size_two q.toNat v t (by omega) hv0
        have hS : nat_size.f 9 (List.replicate q.toNat 0 ++ [v, t]) = some (((if t = 0 then q.toNat + 1 else q.toNat + 2) : Nat) : Int) := by
          refine nat_size.mono _ 8 _ (nat_size.mono _ 7 _ (nat_size.mono _ 6 _ (nat_size.mono _ 5 _ ?_)))
          rw [hS5]
          split <;> rfl
        have hout : nat_Shl.out (M : Int) n = (List.replicate q.toNat 0 ++ [v, t]).take (if t = 0 then q.toNat + 1 else q.toNat + 2) := by
          unfold nat_Shl.out
          rw [if_neg h0, hk, hq, ht, hv]
          by_cases c : t = 0
          · rw [if_pos c, if_pos c, List.take_append, List.length_replicate, List.take_of_length_le (by simp), show q.toNat + 1 - q.toNat = 1 from by omega]; rfl
          · rw [if_neg c, if_neg c, List.take_of_length_le (by simp)]
        have hlen : (nat_Shl.out (M : Int) n).length = (if t = 0 then q.toNat + 1 else q.toNat + 2) := by
          rw [hout, List.length_take, Nat.min_eq_left]
          simp only [List.length_append, List.length_replicate, List.length_cons, List.length_nil]
          split <;> omega
        have fin : ∀ (g : Nat) (w' : World), Kd.C (Kd.int .u64) w' (some ⟨g, 0, none⟩) (if t = 0 then q.toNat + 1 else q.toNat + 2) ((List.replicate q.toNat 0 ++ [v, t]).take (if t = 0 then q.toNat + 1 else q.toNat + 2)) → nat_Shl.RC w' (.slice (some ⟨g, 0, none⟩) (if t = 0 then q.toNat + 1 else q.toNat + 2) (if t = 0 then q.toNat + 1 else q.toNat + 2)) r := by
          intro g w' hc
          rw [← hr]
          refine ⟨_, _, by rw [hlen], Nat.le_of_eq hlen, ?_⟩
          rw [hlen, hout]
          exact hc
        have hs : (((if t = 0 then q.toNat + 1 else q.toNat + 2) : Nat) : Int) ≤ q + 2 := by split <;> omega
        by_cases hk0 : k = 0
        · have ht00 : t = 0 := by rw [← ht, hk0, show (64 : Int) - 0 = ((64 : Nat) : Int) from rfl, shrN M 64 (by omega)]; have : M / 2 ^ 64 = 0 := Nat.div_eq_of_lt (by omega); omega
          have hvM : v = (M : Int) := by rw [← hv, hk0, show (0 : Int) = ((0 : Nat) : Int) from rfl, shlN M 0 (by omega)]; simp; omega
          have hS' := hS
          have fin' := fin
          rw [hvM, ht00] at hS' fin'
          refine (nat_Shl_whole 9 A0 c0 _ (M : Int) n q k b w hr0 hc0 hz9 hB hb hn hq hk hk0 hS' (by rw [if_pos rfl]; omega)).mono ?_
          rintro e w' ⟨g, rfl, hc, _, hb2⟩
          exact ⟨_, rfl, fin' g w' hc, hb2⟩
        · refine (nat_Shl_some 9 A0 c0 _ (M : Int) n q k b t v w hr0 hc0 hz9 hB hb hn hq hk hk0 ht hv ht0 hS hs).mono ?_
          rintro e w' ⟨g, rfl, hc, _, hb2⟩
          exact ⟨_, rfl, fin g w' hc, hb2⟩
    · rw [if_neg c] at h
      exact absurd h (by simp)
end

/-! ### wide_Cmp: function 44 -/
def wide_Cmp.j0 : Nat → Int → Int → Int → Int → Bool → Option (Int)
  | 0, _, _, _, _, _ => none
  | k + 1, x0, x1, x2, x3, x9 => if x9 = true then (some (-1)) else (if x0 = x2 then (if x1 = x3 then (some 0) else (some 1)) else (some 1))
def wide_Cmp.f (k : Nat) (a0 : Int) (a1 : Int) (a2 : Int) (a3 : Int) : Option (Int) := if a0 < a2 then (wide_Cmp.j0 k a0 a1 a2 a3 true) else (if a0 = a2 then (wide_Cmp.j0 k a0 a1 a2 a3 (decide (a1 < a3))) else (wide_Cmp.j0 k a0 a1 a2 a3 false))
theorem wide_Cmp.mono_l : ∀ k, (∀ y0 y1 y2 y3 y4, LeO (wide_Cmp.j0 k y0 y1 y2 y3 y4) (wide_Cmp.j0 (k + 1) y0 y1 y2 y3 y4))
  | 0 => fun _ _ _ _ _ r h => by simp [wide_Cmp.j0] at h
  | k + 1 => by
    have ih0 := wide_Cmp.mono_l k
    · intro y0 y1 y2 y3 y4
      unfold wide_Cmp.j0
      repeat' first
      | (with_reducible exact ih0 _ _ _ _ _)
      | (with_reducible exact LeO.refl _)
      | (with_reducible exact LeO.none _)
      | (with_reducible refine LeO.ite ?_ ?_)
      | (with_reducible refine LeO.bind ?_ (fun _ => ?_))
      | exact ih0 _ _ _ _ _
      | exact LeO.none _
      | refine LeO.ite ?_ ?_
      | refine LeO.bind ?_ (fun _ => ?_)
theorem wide_Cmp.mono : ∀ a0 a1 a2 a3 k, LeO (wide_Cmp.f k a0 a1 a2 a3) (wide_Cmp.f (k + 1) a0 a1 a2 a3) := by
  intro a0 a1 a2 a3 k
  have ih0 := wide_Cmp.mono_l k
  unfold wide_Cmp.f
  repeat' first
      | (with_reducible exact ih0 _ _ _ _ _)
      | (with_reducible exact LeO.refl _)
      | (with_reducible exact LeO.none _)
      | (with_reducible refine LeO.ite ?_ ?_)
      | (with_reducible refine LeO.bind ?_ (fun _ => ?_))
      | exact ih0 _ _ _ _ _
      | exact LeO.none _
      | refine LeO.ite ?_ ?_
      | refine LeO.bind ?_ (fun _ => ?_)
set_option maxHeartbeats 8000000 in
set_option maxRecDepth 100000 in
theorem wide_Cmp.calls (k : Nat) (a0 : Int) (a1 : Int) (a2 : Int) (a3 : Int) (r : Int) (w : World) (h : wide_Cmp.f k a0 a1 a2 a3 = some r) :
    Calls Try.prog 44 #[.int .u64 a0, .int .u64 a1, .int .u64 a2, .int .u64 a3] w fun e w' => e = .returned (.int .i64 r) ∧ Drawn0 w w' := by
  have H : (if a0 < a2 then (wide_Cmp.j0 k a0 a1 a2 a3 true) else (if a0 = a2 then (wide_Cmp.j0 k a0 a1 a2 a3 (decide (a1 < a3))) else (wide_Cmp.j0 k a0 a1 a2 a3 false))) = some r := h
  clear h
  have HC5 := Aside0.mk H
  clear H
  go_enter Try.func44, Try.ntmps44
  go_upto_region 1 with (fail)
  go_cut [9] (fun v9 wc => ∃ (kq : Nat) (x9_4 : Bool), v9 = .bool x9_4 ∧ Aside0 (wide_Cmp.j0 kq a0 a1 a2 a3 x9_4 = some r) ∧ Aside0 (kq ≤ k) ∧ Drawn0 w wc)
  case first =>
    have H := HC5.out
    clear HC5
    by_cases c6 : a0 < a2
    · rw [if_pos c6] at H
      have c6b0 : decide (a0 < a2) = true := decide_eq_true c6
      clear c6
      (first | rw [c6b0] | (simp only [i64_w, i32_w]; rw [c6b0]) | skip)
      have H' := Aside0.mk H
      clear H
      go_wp2
      go_meet
      case rel => exact ⟨_, (true), (by first | rfl | (simp; done) | (simp [*]; done)), H', ⟨by first | omega | exact Nat.le_refl _⟩, by repeat (first | exact Drawn0.refl _ | apply Drawn0.step)⟩
    · rw [if_neg c6] at H
      have c6b0 : decide (a0 < a2) = false := decide_eq_false c6
      clear c6
      (first | rw [c6b0] | (simp only [i64_w, i32_w]; rw [c6b0]) | skip)
      by_cases c7 : a0 = a2
      · rw [if_pos c7] at H
        have c7b0 : (a0 == a2) = true := beq_iff_eq.mpr c7
        have c7b1 : (a0 != a2) = false := bne_eq_false_iff_eq.mpr c7
        clear c7
        have H' := Aside0.mk H
        clear H
        go_wp2
        go_meet
        case rel => exact ⟨_, (decide (a1 < a3)), (by first | rfl | (simp; done) | (simp [*]; done)), H', ⟨by first | omega | exact Nat.le_refl _⟩, by repeat (first | exact Drawn0.refl _ | apply Drawn0.step)⟩
      · rw [if_neg c7] at H
        have c7b0 : (a0 == a2) = false := beq_eq_false_iff_ne.mpr c7
        have c7b1 : (a0 != a2) = true := bne_iff_ne.mpr c7
        have H' := Aside0.mk H
        clear H
        go_wp2
        go_meet
        case rel => exact ⟨_, (false), (by first | rfl | (simp; done) | (simp [*]; done)), H', ⟨by first | omega | exact Nat.le_refl _⟩, by repeat (first | exact Drawn0.refl _ | apply Drawn0.step)⟩
  case rest =>
    clear HC5
    try clear p2
    try clear c4
    try clear c6
    try clear c6b0
    try clear c7
    try clear c7b0
    try clear c7b1
    obtain ⟨kq, x9_4, rfl, HA, HJ4, ⟨mc4, rfl⟩⟩ := hcut
    cases kq with
    | zero => exact absurd HA.out (by simp [wide_Cmp.j0])
    | succ kj4 =>
      have H := HA.out
      clear HA
      simp only [wide_Cmp.j0] at H
      by_cases c8 : x9_4 = true
      · subst c8
        have H1 : (some (-1)) = some r := by rw [if_pos rfl] at H; exact H
        clear H
        have H := H1
        clear H1
        obtain rfl := Option.some.inj H
        go_wp2
        go_ret
        exact ⟨by first | rfl | (simp; done) | (simp [*]; done), by repeat (first | exact Drawn0.refl _ | apply Drawn0.step)⟩
      · replace c8 := Bool.eq_false_iff.mpr c8
        subst c8
        have H1 : (if a0 = a2 then (if a1 = a3 then (some 0) else (some 1)) else (some 1)) = some r := by rw [if_neg (show ¬ (false = true) by decide)] at H; exact H
        clear H
        have H := H1
        clear H1
        by_cases c9 : a0 = a2
        · rw [if_pos c9] at H
          have c9b0 : (a0 == a2) = true := beq_iff_eq.mpr c9
          have c9b1 : (a0 != a2) = false := bne_eq_false_iff_eq.mpr c9
          clear c9
          by_cases c10 : a1 = a3
          · rw [if_pos c10] at H
            have c10b0 : (a1 == a3) = true := beq_iff_eq.mpr c10
            have c10b1 : (a1 != a3) = false := bne_eq_false_iff_eq.mpr c10
            clear c10
            obtain rfl := Option.some.inj H
            go_wp2
            go_ret
            exact ⟨by first | rfl | (simp; done) | (simp [*]; done), by repeat (first | exact Drawn0.refl _ | apply Drawn0.step)⟩
          · rw [if_neg c10] at H
            have c10b0 : (a1 == a3) = false := beq_eq_false_iff_ne.mpr c10
            have c10b1 : (a1 != a3) = true := bne_iff_ne.mpr c10
            obtain rfl := Option.some.inj H
            go_wp2
            go_ret
            exact ⟨by first | rfl | (simp; done) | (simp [*]; done), by repeat (first | exact Drawn0.refl _ | apply Drawn0.step)⟩
        · rw [if_neg c9] at H
          have c9b0 : (a0 == a2) = false := beq_eq_false_iff_ne.mpr c9
          have c9b1 : (a0 != a2) = true := bne_iff_ne.mpr c9
          obtain rfl := Option.some.inj H
          go_wp2
          go_ret
          exact ⟨by first | rfl | (simp; done) | (simp [*]; done), by repeat (first | exact Drawn0.refl _ | apply Drawn0.step)⟩

end Go.Proofs.Ytpnndhbeahajkaa.PF64Exact
