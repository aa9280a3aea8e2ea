/-
  Proved: for every list of bytes b and every 64-bit number v the statement OctetBack answers true and leaves b as it reads.
  Conditions: none beyond the row's own (each slice of the form's reach).
-/
import Derived.Test.YtaldpngilgaciaaLaw1
import Derived.Test.YtaldpngilgaciaaRows
import Derived.Test.YtaldpngilgaciaaRow
import Derived.Deep.DeepCutAuto
set_option linter.unusedVariables false
set_option linter.unusedSimpArgs false
namespace Go.Proofs.Ytaldpngilgaciaa
open Go.RowKit Go.Tm Go.ChangeShapes Go.WideShapes Go.ChangeAt
open Go.ChangeMaps (open_string shut_string)
set_option maxHeartbeats 400000
set_option maxRecDepth 100000
attribute [local go_sem] IntKind.wrap_u16



theorem and_mask (X i : Nat) (hi : i < 8) (hX : X < 18446744073709551616) (M : Int) (hM : M = ((256 ^ i : Nat) : Int) - 1) : bits BinOp.and IntKind.u64 (X : Int) M = ((X % 256 ^ i : Nat) : Int) := by
  have hp : (2 : Int) ^ (8 * i) = ((256 ^ i : Nat) : Int) := by
    rw [Int.pow_mul, Int.natCast_pow]
    rfl
  have := bits_mask .u64 64 (by decide) wraps_u64 (8 * i) (by omega) (X : Int) (by omega) (by omega)
  rw [hp, ← hM] at this
  rw [this]
  omega
theorem num_of_le (K X : Nat) (hK : isW (K : Int) = true) : numE (K : Int) (leB K X) = 0 ∧ numV (K : Int) (leB K X) = X % 256 ^ K ∧ numL (K : Int) (leB K X) = [] := by
  have e : numE (K : Int) (leB K X) = 0 := by
    unfold numE rowE
    rw [if_pos hK, if_neg (by omega), if_neg (by rw [leB_length]; omega)]
  have ht : (leB K X).take K = leB K X := List.take_of_length_le (by rw [leB_length]; exact Nat.le_refl _)
  refine ⟨e, ?_, ?_⟩
  · unfold numV
    rw [if_pos e, Int.toNat_natCast, ht, leN_leB]
  · unfold numL
    rw [if_pos e, Int.toNat_natCast]
    exact List.drop_eq_nil_of_le (by rw [leB_length]; exact Nat.le_refl _)
theorem get_of_le (K X : Nat) : getE K (leB K X) = 0 ∧ getV K (leB K X) = X % 256 ^ K := by
  have ht : (leB K X).take K = leB K X := List.take_of_length_le (by rw [leB_length]; exact Nat.le_refl _)
  constructor
  · unfold getE
    rw [if_neg (by rw [leB_length]; omega)]
  · unfold getV
    rw [if_neg (by rw [leB_length]; omega), ht, leN_leB]
theorem sm_step2 (X i : Nat) (hi : i < 8) : bits BinOp.or IntKind.u64 (sm X i) (IntKind.u64.wrap (IntKind.u64.wrap ((UInt8.ofNat (X / 256 ^ i % 256)).toNat : Int) * 2 ^ (8 * i))) = sm X (i + 1) := by
  have h := sm_step X i hi
  have hb := (UInt8.ofNat (X / 256 ^ i % 256)).toNat_lt
  have e : min ((8 * (i : Int)).toNat) 64 = 8 * i := by omega
  rw [e] at h
  have e2 : IntKind.u64.wrap ((UInt8.ofNat (X / 256 ^ i % 256)).toNat : Int) = ((UInt8.ofNat (X / 256 ^ i % 256)).toNat : Int) := wraps_u64 _ (by omega) (by omega)
  rw [e2]
  exact h
def backRows (l : List UInt8) (X : Nat) : List (List UInt8) := [l ++ leB 1 X, l ++ leB 2 X, l ++ leB 4 X, l ++ leB 8 X]
theorem backRows_at (l : List UInt8) (X k : Nat) (hk : k < 4) : (backRows l X).getD k [] = l ++ leB (2 ^ k) X := by
  have : k = 0 ∨ k = 1 ∨ k = 2 ∨ k = 3 := by omega
  rcases this with rfl | rfl | rfl | rfl <;> rfl

set_option maxHeartbeats 4000000 in
theorem octetBack_walk {w : World} {A : Option Addr} {n c : Nat} {l : List UInt8} (h : Rda w A c l) (hn : n = l.length) (hl : l.length + 8 ≤ 140737488355328) (x : Int) (hx0 : 0 ≤ x) (hx1 : x < 18446744073709551616) :
    Calls Try.prog 6 #[.slice A n c, .int .u64 x] w fun e w' => e = .returned (.bool true) ∧ Below w.heap.size w w' := by
  subst hn
  go_enter Try.func6, Try.ntmps6
  go_wp2_with fail
  refine (put1_any h rfl (by omega) _ (by omega) (by omega)).mono ?_
  rintro e w1 ⟨A1, c1, rfl, hN1⟩
  have h1 := h.below hN1.below
  have B1 := hN1.below
  go_wp2_with fail
  refine (put2_any h1 rfl (by omega) (x % 65536) (by omega) (by omega)).mono ?_
  rintro e w2 ⟨A2, c2, rfl, hN2⟩
  have h2 := h1.below hN2.below
  have B2 := below_then B1 hN2.below
  go_wp2_with fail
  refine (put4_any h2 rfl (by omega) (x % 4294967296) (by omega) (by omega)).mono ?_
  rintro e w3 ⟨A3, c3, rfl, hN3⟩
  have h3 := h2.below hN3.below
  have B3 := below_then B2 hN3.below
  go_wp2_with fail
  refine (put8_any h3 rfl (by omega) x (by omega) (by omega)).mono ?_
  rintro e w4 ⟨A4, c4, rfl, hN4⟩
  have h4 := h3.below hN4.below
  have B4 := below_then B3 hN4.below
  have m1 : leB 1 (x % 256).toNat = leB 1 x.toNat := by rw [← leB_mod 1 x.toNat]; congr 1; omega
  have m2 : leB 2 (x % 65536).toNat = leB 2 x.toNat := by rw [← leB_mod 2 x.toNat]; congr 1; omega
  have m4 : leB 4 (x % 4294967296).toNat = leB 4 x.toNat := by rw [← leB_mod 4 x.toNat]; congr 1; omega
  have r1 := ((hN1.rda.below hN2.below).below hN3.below).below hN4.below
  have r2 := (hN2.rda.below hN3.below).below hN4.below
  have r3 := hN3.rda.below hN4.below
  have r4 := hN4.rda
  rw [m1] at r1
  rw [m2] at r2
  rw [m4] at r3
  have hV := (((((RowVals.nil w4).cons r4 (n := l.length + 8) (by simp)).cons r3 (n := l.length + 4) (by simp)).cons r2 (n := l.length + 2) (by simp)).cons r1 (n := l.length + 1) (by simp)).rows 22 4 rfl (by simp) rfl
  clear m1 m2 m4 hN1 hN2 hN3 hN4 r1 r2 r3 r4 B1 B2 B3 h1 h2 h3 h
  obtain ⟨X, hX⟩ : ∃ X : Nat, x = (X : Int) := ⟨x.toNat, by omega⟩
  subst hX
  rw [Int.toNat_natCast] at hV
  obtain ⟨g, hg⟩ : ∃ g, w4.heap.size = g := ⟨_, rfl⟩
  rw [hg] at hV
  have HG := Lib.hid hg
  clear hg
  go_wp2_with fail
  rw [HG.out]
  go_loopw [6] (fun i wr => ∃ k : Nat, k ≤ 4 ∧ i = .int .i64 k ∧ RdRows wr (some ⟨g, 0, none⟩) 4 (backRows l X) ∧ Rda wr A c l ∧ Below w.heap.size w wr) (fun i _ => 4 - (intOf i).toNat)
  case atStart => exact ⟨0, by omega, rfl, hV, h4.alloc _, B4.alloc B4.size _⟩
  case round =>
    obtain ⟨k, hk, rfl, hR, hl1, hB⟩ := hrel
    by_cases hlt : k < 4
    · obtain ⟨Ak, ck, hck, hrk⟩ := hR.at_ k (by simpa [backRows] using hlt)
      rw [backRows_at l X k hlt] at hck hrk
      have h4' : (k = 0 ∧ 2 ^ k = 1) ∨ (k = 1 ∧ 2 ^ k = 2) ∨ (k = 2 ∧ 2 ^ k = 4) ∨ (k = 3 ∧ 2 ^ k = 8) := by
        have : k = 0 ∨ k = 1 ∨ k = 2 ∨ k = 3 := by omega
        rcases this with rfl | rfl | rfl | rfl <;> simp
      have hcap := hrk.cap
      rw [List.length_append, leB_length] at hcap
      have hcap2 : (l.length : Int) ≤ (ck : Int) := by
        have := Nat.le_trans (Nat.le_add_right _ _) hcap
        omega
      have hmax := hrk.max
      unfold maxLen at hmax
      obtain ⟨K, hK⟩ : ∃ K, 2 ^ k = K := ⟨_, rfl⟩
      rw [hK] at hck hrk hcap h4'
      have hWK : isW (K : Int) = true ∧ 1 ≤ K ∧ K ≤ 8 := by rcases h4' with ⟨_, rfl⟩ | ⟨_, rfl⟩ | ⟨_, rfl⟩ | ⟨_, rfl⟩ <;> decide
      have hNU := num_of_le K X hWK.1
      obtain ⟨q1, q2, q3⟩ := row_of_append l (leB K X)
      obtain ⟨n1, n2, n3⟩ := hNU
      have hRow : ∀ (W : World) (p : Nat), IsR W p 75 (l ++ leB K X) → Calls Try.prog 23 #[.pointer (some ⟨p, 0, none⟩), .int .i64 (l.length : Int)] W fun e w' => ∃ A' c', e = .returned (.tuple #[.slice A' l.length c', .int .i64 0]) ∧ NewR 5 p W w' A' c' l ∧ IsR w' p 75 (leB K X) := fun W p hp => by
        have := row_any hp (l.length : Int) (by simp; omega) (by omega)
        rwa [q1, q2, q3] at this
      have hNum : ∀ (W : World) (p : Nat) (kk : Int), kk = (K : Int) → IsR W p 75 (leB K X) → Calls Try.prog 24 #[.pointer (some ⟨p, 0, none⟩), .int .i64 kk] W fun e w' => e = .returned (.tuple #[.int .u64 ((X % 256 ^ K : Nat) : Int), .int .i64 0]) ∧ W.grownBy w' (some p) ∧ IsR w' p 75 [] := fun W p kk hkk hp => by
        subst hkk
        have := number_any hp (K : Int) (by simp; omega)
        rwa [n1, n2, n3] at this
      have HRow := Lib.hid hRow
      have HNum := Lib.hid hNum
      obtain ⟨hW1, hW2, hW3⟩ := hWK
      have HX : Lt64 (X : Int) := ⟨by omega, hx1⟩
      have HR := Lib.hid hR
      have hcell0 := Lib.hid hrk
      clear hRow hNum q1 q2 q3 n1 n2 n3 hK h4 hV hW1 hx0 hx1
      rcases h4' with ⟨rfl, rfl⟩ | ⟨rfl, rfl⟩ | ⟨rfl, rfl⟩ | ⟨rfl, rfl⟩
      · clear hlt hk hW2 hW3
        simp only [Nat.zero_add, Nat.add_zero, List.length_append, leB_length] at hck
        go_upto_region 9 with fail
        rw [and_mask X 1 (by omega) (by have := HX.hi; omega) 255 (by decide)]
        go_wp2_with fail
        refine (same_yes (l := l) (by have := hcell0.out.take l.length (by simp); simpa using this) hl1 rfl rfl rfl).mono ?_
        rintro e w5 ⟨rfl, hb5⟩
        go_wp2_with fail
        refine (known_any _).mono ?_
        rintro e w6 ⟨rfl, hb6⟩
        have hB6' := below_then hb5 hb6
        have hr6 := hcell0.out.below hB6'
        have hl6 := hl1.below hB6'
        have hR6 := HR.out.below hB6'
        have hB6 := below_then hB hB6'
        have hl1' := Lib.hid hl6
        have HR6 := Lib.hid hR6
        clear hb5 hb6 hl1 hR hB hrk hck
        go_wp2_with fail
        go_loop [10, 11] (fun s i => ∃ m : Nat, m ≤ 1 ∧ i = .int .i64 m ∧ s = .int .u64 (sm X m)) (fun _ i => 1 - (intOf i).toNat)
        case atStart => exact ⟨0, by omega, rfl, by rw [sm_zero]⟩
        case round =>
          obtain ⟨m, hm, rfl, rfl⟩ := hrel
          by_cases hlm : m < 1
          · obtain ⟨b, o, rfl, hc⟩ := hr6.cells (by simp)
            have hcm := hc (l.length + m) (by simp; omega)
            rw [getD_append_right, leB_get _ _ _ hlm] at hcm
            have hst0 := sm_step2 X m (by omega)
            have hs01 := sm_lt X m (by omega)
            obtain ⟨Y, hY⟩ : ∃ Y : UInt8, UInt8.ofNat (X / 256 ^ m % 256) = Y := ⟨_, rfl⟩
            obtain ⟨S, hS⟩ : ∃ S : Int, sm X m = S := ⟨_, rfl⟩
            rw [hY, hS] at hst0
            rw [hY] at hcm
            rw [hS] at hs01 ⊢
            have HS : Lt64 S := ⟨hs01.1, hs01.2⟩
            have hst := Lib.hid hst0
            clear hc hY hS hst0 hs01
            have hm8 : (0 : Int) ≤ 8 * (m : Int) := by omega
            go_wp2
            go_round
            case rel => exact ⟨m + 1, by omega, by go_num, by rw [hst.out]⟩
            case measure => simp [intOf]; omega
          · have he : m = 1 := by omega
            subst he
            rw [sm_is X 1 256 (by decide)]
            go_wp2_with fail
            refine (newReader_any hr6 (by simp) (by simp; omega)).mono ?_
            rintro e w7 ⟨r, rfl, hr7, hI7, hb7⟩
            have hB7 := below_then hB6 hb7
            have hl7 := hl6.below hb7
            have hR7 := hR6.below hb7
            have hrw : w.heap.size ≤ r := Nat.le_trans hB6.size hr7
            have hr6r : w6.heap.size ≤ r := hr7
            clear hr6 hl6 hR6 hB6
            go_wp2_with fail
            refine (HRow.out _ _ hI7).mono ?_
            rintro e w8 ⟨A8, c8, rfl, hN8, hI8⟩
            have hB78 : Below w6.heap.size w7 w8 := grown_below hN8.grown hb7.size (fun q e => by simp at e; omega)
            have hB8 := hB7.grown hN8.grown hB7.size (fun q e => by simp at e; omega)
            have hbb8 := hb7.trans hB78
            have hv8 := hN8.rda
            clear hl7 hR7 hB7
            go_wp2_with fail
            refine (HNum.out _ _ _ (by rfl) hI8).mono ?_
            rintro e w9 ⟨rfl, hg9, hI9⟩
            have hB9 := hB8.grown hg9 hB8.size (fun q e => by simp at e; omega)
            have hbb9 := hbb8.grown hg9 (by have := hbb8.size; omega) (fun q e => by simp at e; omega)
            obtain ⟨Ab, cb, hbx, _⟩ := hI8.is
            have hv9 := hv8.boxed hbx hg9
            have hl9 := hl1'.out.below hbb9
            have hR9 := HR6.out.below hbb9
            clear hbx hv8 hB8 hI8 hN8 hg9 hB78
            go_wp2_with fail
            refine (same_yes hv9 hl9 rfl rfl rfl).mono ?_
            rintro e w10 ⟨rfl, hb10⟩
            have hI10 := hI9.below hb10
            have hl10 := hl9.below hb10
            have hR10 := hR9.below hb10
            have hB10 := below_then hB9 hb10
            clear hI9 hl9 hR9 hB9 hv9 hb10
            go_wp2_with fail
            refine (left_any hI10).mono ?_
            rintro e w11 ⟨rfl, rfl⟩
            go_wp2_with fail
            refine (end_any hI10).mono ?_
            rw [show endE [] = 0 from rfl]
            rintro e w11 ⟨rfl, rfl⟩
            go_wp2_with fail
            go_roundw
            case rel => exact ⟨1, by omega, by rfl, hR10, hl10, hB10⟩
            case measure => simp [intOf]
      · clear hlt hk hW2 hW3
        simp only [Nat.zero_add, Nat.add_zero, List.length_append, leB_length] at hck
        go_upto_region 9 with fail
        rw [and_mask X 2 (by omega) (by have := HX.hi; omega) 65535 (by decide)]
        go_wp2_with fail
        refine (same_yes (l := l) (by have := hcell0.out.take l.length (by simp); simpa using this) hl1 rfl rfl rfl).mono ?_
        rintro e w5 ⟨rfl, hb5⟩
        go_wp2_with fail
        refine (known_any _).mono ?_
        rintro e w6 ⟨rfl, hb6⟩
        have hB6' := below_then hb5 hb6
        have hr6 := hcell0.out.below hB6'
        have hl6 := hl1.below hB6'
        have hR6 := HR.out.below hB6'
        have hB6 := below_then hB hB6'
        have hl1' := Lib.hid hl6
        have HR6 := Lib.hid hR6
        clear hb5 hb6 hl1 hR hB hrk hck
        go_wp2_with fail
        go_loop [10, 11] (fun s i => ∃ m : Nat, m ≤ 2 ∧ i = .int .i64 m ∧ s = .int .u64 (sm X m)) (fun _ i => 2 - (intOf i).toNat)
        case atStart => exact ⟨0, by omega, rfl, by rw [sm_zero]⟩
        case round =>
          obtain ⟨m, hm, rfl, rfl⟩ := hrel
          by_cases hlm : m < 2
          · obtain ⟨b, o, rfl, hc⟩ := hr6.cells (by simp)
            have hcm := hc (l.length + m) (by simp; omega)
            rw [getD_append_right, leB_get _ _ _ hlm] at hcm
            have hst0 := sm_step2 X m (by omega)
            have hs01 := sm_lt X m (by omega)
            obtain ⟨Y, hY⟩ : ∃ Y : UInt8, UInt8.ofNat (X / 256 ^ m % 256) = Y := ⟨_, rfl⟩
            obtain ⟨S, hS⟩ : ∃ S : Int, sm X m = S := ⟨_, rfl⟩
            rw [hY, hS] at hst0
            rw [hY] at hcm
            rw [hS] at hs01 ⊢
            have HS : Lt64 S := ⟨hs01.1, hs01.2⟩
            have hst := Lib.hid hst0
            clear hc hY hS hst0 hs01
            have hm8 : (0 : Int) ≤ 8 * (m : Int) := by omega
            go_wp2
            go_round
            case rel => exact ⟨m + 1, by omega, by go_num, by rw [hst.out]⟩
            case measure => simp [intOf]; omega
          · have he : m = 2 := by omega
            subst he
            rw [sm_is X 2 65536 (by decide)]
            go_wp2_with fail
            refine (newReader_any hr6 (by simp) (by simp; omega)).mono ?_
            rintro e w7 ⟨r, rfl, hr7, hI7, hb7⟩
            have hB7 := below_then hB6 hb7
            have hl7 := hl6.below hb7
            have hR7 := hR6.below hb7
            have hrw : w.heap.size ≤ r := Nat.le_trans hB6.size hr7
            have hr6r : w6.heap.size ≤ r := hr7
            clear hr6 hl6 hR6 hB6
            go_wp2_with fail
            refine (HRow.out _ _ hI7).mono ?_
            rintro e w8 ⟨A8, c8, rfl, hN8, hI8⟩
            have hB78 : Below w6.heap.size w7 w8 := grown_below hN8.grown hb7.size (fun q e => by simp at e; omega)
            have hB8 := hB7.grown hN8.grown hB7.size (fun q e => by simp at e; omega)
            have hbb8 := hb7.trans hB78
            have hv8 := hN8.rda
            clear hl7 hR7 hB7
            go_wp2_with fail
            refine (HNum.out _ _ _ (by rfl) hI8).mono ?_
            rintro e w9 ⟨rfl, hg9, hI9⟩
            have hB9 := hB8.grown hg9 hB8.size (fun q e => by simp at e; omega)
            have hbb9 := hbb8.grown hg9 (by have := hbb8.size; omega) (fun q e => by simp at e; omega)
            obtain ⟨Ab, cb, hbx, _⟩ := hI8.is
            have hv9 := hv8.boxed hbx hg9
            have hl9 := hl1'.out.below hbb9
            have hR9 := HR6.out.below hbb9
            clear hbx hv8 hB8 hI8 hN8 hg9 hB78
            go_wp2_with fail
            refine (same_yes hv9 hl9 rfl rfl rfl).mono ?_
            rintro e w10 ⟨rfl, hb10⟩
            have hI10 := hI9.below hb10
            have hl10 := hl9.below hb10
            have hR10 := hR9.below hb10
            have hB10 := below_then hB9 hb10
            clear hI9 hl9 hR9 hB9 hv9 hb10
            go_wp2_with fail
            refine (left_any hI10).mono ?_
            rintro e w11 ⟨rfl, rfl⟩
            go_wp2_with fail
            refine (end_any hI10).mono ?_
            rw [show endE [] = 0 from rfl]
            rintro e w11 ⟨rfl, rfl⟩
            go_wp2_with fail
            go_roundw
            case rel => exact ⟨2, by omega, by rfl, hR10, hl10, hB10⟩
            case measure => simp [intOf]
      · clear hlt hk hW2 hW3
        simp only [Nat.zero_add, Nat.add_zero, List.length_append, leB_length] at hck
        go_upto_region 9 with fail
        rw [and_mask X 4 (by omega) (by have := HX.hi; omega) 4294967295 (by decide)]
        go_wp2_with fail
        refine (same_yes (l := l) (by have := hcell0.out.take l.length (by simp); simpa using this) hl1 rfl rfl rfl).mono ?_
        rintro e w5 ⟨rfl, hb5⟩
        go_wp2_with fail
        refine (known_any _).mono ?_
        rintro e w6 ⟨rfl, hb6⟩
        have hB6' := below_then hb5 hb6
        have hr6 := hcell0.out.below hB6'
        have hl6 := hl1.below hB6'
        have hR6 := HR.out.below hB6'
        have hB6 := below_then hB hB6'
        have hl1' := Lib.hid hl6
        have HR6 := Lib.hid hR6
        clear hb5 hb6 hl1 hR hB hrk hck
        go_wp2_with fail
        go_loop [10, 11] (fun s i => ∃ m : Nat, m ≤ 4 ∧ i = .int .i64 m ∧ s = .int .u64 (sm X m)) (fun _ i => 4 - (intOf i).toNat)
        case atStart => exact ⟨0, by omega, rfl, by rw [sm_zero]⟩
        case round =>
          obtain ⟨m, hm, rfl, rfl⟩ := hrel
          by_cases hlm : m < 4
          · obtain ⟨b, o, rfl, hc⟩ := hr6.cells (by simp)
            have hcm := hc (l.length + m) (by simp; omega)
            rw [getD_append_right, leB_get _ _ _ hlm] at hcm
            have hst0 := sm_step2 X m (by omega)
            have hs01 := sm_lt X m (by omega)
            obtain ⟨Y, hY⟩ : ∃ Y : UInt8, UInt8.ofNat (X / 256 ^ m % 256) = Y := ⟨_, rfl⟩
            obtain ⟨S, hS⟩ : ∃ S : Int, sm X m = S := ⟨_, rfl⟩
            rw [hY, hS] at hst0
            rw [hY] at hcm
            rw [hS] at hs01 ⊢
            have HS : Lt64 S := ⟨hs01.1, hs01.2⟩
            have hst := Lib.hid hst0
            clear hc hY hS hst0 hs01
            have hm8 : (0 : Int) ≤ 8 * (m : Int) := by omega
            go_wp2
            go_round
            case rel => exact ⟨m + 1, by omega, by go_num, by rw [hst.out]⟩
            case measure => simp [intOf]; omega
          · have he : m = 4 := by omega
            subst he
            rw [sm_is X 4 4294967296 (by decide)]
            go_wp2_with fail
            refine (newReader_any hr6 (by simp) (by simp; omega)).mono ?_
            rintro e w7 ⟨r, rfl, hr7, hI7, hb7⟩
            have hB7 := below_then hB6 hb7
            have hl7 := hl6.below hb7
            have hR7 := hR6.below hb7
            have hrw : w.heap.size ≤ r := Nat.le_trans hB6.size hr7
            have hr6r : w6.heap.size ≤ r := hr7
            clear hr6 hl6 hR6 hB6
            go_wp2_with fail
            refine (HRow.out _ _ hI7).mono ?_
            rintro e w8 ⟨A8, c8, rfl, hN8, hI8⟩
            have hB78 : Below w6.heap.size w7 w8 := grown_below hN8.grown hb7.size (fun q e => by simp at e; omega)
            have hB8 := hB7.grown hN8.grown hB7.size (fun q e => by simp at e; omega)
            have hbb8 := hb7.trans hB78
            have hv8 := hN8.rda
            clear hl7 hR7 hB7
            go_wp2_with fail
            refine (HNum.out _ _ _ (by rfl) hI8).mono ?_
            rintro e w9 ⟨rfl, hg9, hI9⟩
            have hB9 := hB8.grown hg9 hB8.size (fun q e => by simp at e; omega)
            have hbb9 := hbb8.grown hg9 (by have := hbb8.size; omega) (fun q e => by simp at e; omega)
            obtain ⟨Ab, cb, hbx, _⟩ := hI8.is
            have hv9 := hv8.boxed hbx hg9
            have hl9 := hl1'.out.below hbb9
            have hR9 := HR6.out.below hbb9
            clear hbx hv8 hB8 hI8 hN8 hg9 hB78
            go_wp2_with fail
            refine (same_yes hv9 hl9 rfl rfl rfl).mono ?_
            rintro e w10 ⟨rfl, hb10⟩
            have hI10 := hI9.below hb10
            have hl10 := hl9.below hb10
            have hR10 := hR9.below hb10
            have hB10 := below_then hB9 hb10
            clear hI9 hl9 hR9 hB9 hv9 hb10
            go_wp2_with fail
            refine (left_any hI10).mono ?_
            rintro e w11 ⟨rfl, rfl⟩
            go_wp2_with fail
            refine (end_any hI10).mono ?_
            rw [show endE [] = 0 from rfl]
            rintro e w11 ⟨rfl, rfl⟩
            go_wp2_with fail
            go_roundw
            case rel => exact ⟨3, by omega, by rfl, hR10, hl10, hB10⟩
            case measure => simp [intOf]
      · clear hlt hk hW2 hW3
        simp only [Nat.zero_add, Nat.add_zero, List.length_append, leB_length] at hck
        go_upto_region 9 with fail
        go_wp2_with fail
        refine (same_yes (l := l) (by have := hcell0.out.take l.length (by simp); simpa using this) hl1 rfl rfl rfl).mono ?_
        rintro e w5 ⟨rfl, hb5⟩
        go_wp2_with fail
        refine (known_any _).mono ?_
        rintro e w6 ⟨rfl, hb6⟩
        have hB6' := below_then hb5 hb6
        have hr6 := hcell0.out.below hB6'
        have hl6 := hl1.below hB6'
        have hR6 := HR.out.below hB6'
        have hB6 := below_then hB hB6'
        have hl1' := Lib.hid hl6
        have HR6 := Lib.hid hR6
        clear hb5 hb6 hl1 hR hB hrk hck
        go_wp2_with fail
        go_loop [10, 11] (fun s i => ∃ m : Nat, m ≤ 8 ∧ i = .int .i64 m ∧ s = .int .u64 (sm X m)) (fun _ i => 8 - (intOf i).toNat)
        case atStart => exact ⟨0, by omega, rfl, by rw [sm_zero]⟩
        case round =>
          obtain ⟨m, hm, rfl, rfl⟩ := hrel
          by_cases hlm : m < 8
          · obtain ⟨b, o, rfl, hc⟩ := hr6.cells (by simp)
            have hcm := hc (l.length + m) (by simp; omega)
            rw [getD_append_right, leB_get _ _ _ hlm] at hcm
            have hst0 := sm_step2 X m (by omega)
            have hs01 := sm_lt X m (by omega)
            obtain ⟨Y, hY⟩ : ∃ Y : UInt8, UInt8.ofNat (X / 256 ^ m % 256) = Y := ⟨_, rfl⟩
            obtain ⟨S, hS⟩ : ∃ S : Int, sm X m = S := ⟨_, rfl⟩
            rw [hY, hS] at hst0
            rw [hY] at hcm
            rw [hS] at hs01 ⊢
            have HS : Lt64 S := ⟨hs01.1, hs01.2⟩
            have hst := Lib.hid hst0
            clear hc hY hS hst0 hs01
            have hm8 : (0 : Int) ≤ 8 * (m : Int) := by omega
            go_wp2
            go_round
            case rel => exact ⟨m + 1, by omega, by go_num, by rw [hst.out]⟩
            case measure => simp [intOf]; omega
          · have he : m = 8 := by omega
            subst he
            rw [sm_all X (by have := HX.hi; omega)]
            have hN8 := HNum.out
            simp only [show X % 256 ^ 8 = X from Nat.mod_eq_of_lt (by have := HX.hi; simpa using (by omega : X < 18446744073709551616))] at hN8
            have HNum8 := Lib.hid hN8
            clear hN8
            go_wp2_with fail
            refine (newReader_any hr6 (by simp) (by simp; omega)).mono ?_
            rintro e w7 ⟨r, rfl, hr7, hI7, hb7⟩
            have hB7 := below_then hB6 hb7
            have hl7 := hl6.below hb7
            have hR7 := hR6.below hb7
            have hrw : w.heap.size ≤ r := Nat.le_trans hB6.size hr7
            have hr6r : w6.heap.size ≤ r := hr7
            clear hr6 hl6 hR6 hB6
            go_wp2_with fail
            refine (HRow.out _ _ hI7).mono ?_
            rintro e w8 ⟨A8, c8, rfl, hN8, hI8⟩
            have hB78 : Below w6.heap.size w7 w8 := grown_below hN8.grown hb7.size (fun q e => by simp at e; omega)
            have hB8 := hB7.grown hN8.grown hB7.size (fun q e => by simp at e; omega)
            have hbb8 := hb7.trans hB78
            have hv8 := hN8.rda
            clear hl7 hR7 hB7
            go_wp2_with fail
            refine (HNum8.out _ _ _ (by rfl) hI8).mono ?_
            rintro e w9 ⟨rfl, hg9, hI9⟩
            have hB9 := hB8.grown hg9 hB8.size (fun q e => by simp at e; omega)
            have hbb9 := hbb8.grown hg9 (by have := hbb8.size; omega) (fun q e => by simp at e; omega)
            obtain ⟨Ab, cb, hbx, _⟩ := hI8.is
            have hv9 := hv8.boxed hbx hg9
            have hl9 := hl1'.out.below hbb9
            have hR9 := HR6.out.below hbb9
            clear hbx hv8 hB8 hI8 hN8 hg9 hB78
            go_wp2_with fail
            refine (same_yes hv9 hl9 rfl rfl rfl).mono ?_
            rintro e w10 ⟨rfl, hb10⟩
            have hI10 := hI9.below hb10
            have hl10 := hl9.below hb10
            have hR10 := hR9.below hb10
            have hB10 := below_then hB9 hb10
            clear hI9 hl9 hR9 hB9 hv9 hb10
            go_wp2_with fail
            refine (left_any hI10).mono ?_
            rintro e w11 ⟨rfl, rfl⟩
            go_wp2_with fail
            refine (end_any hI10).mono ?_
            rw [show endE [] = 0 from rfl]
            rintro e w11 ⟨rfl, rfl⟩
            go_wp2_with fail
            go_roundw
            case rel => exact ⟨4, by omega, by rfl, hR10, hl10, hB10⟩
            case measure => simp [intOf]
    · have he : k = 4 := by omega
      subst he
      obtain ⟨A0, d0, hc0, hr0⟩ := hR.at_ 0 (by simp [backRows])
      obtain ⟨A1', d1, hc1, hr1⟩ := hR.at_ 1 (by simp [backRows])
      obtain ⟨A2', d2, hc2, hr2⟩ := hR.at_ 2 (by simp [backRows])
      obtain ⟨A3', d3, hc3, hr3⟩ := hR.at_ 3 (by simp [backRows])
      rw [backRows_at l X 0 (by omega)] at hc0 hr0
      rw [backRows_at l X 1 (by omega)] at hc1 hr1
      rw [backRows_at l X 2 (by omega)] at hc2 hr2
      rw [backRows_at l X 3 (by omega)] at hc3 hr3
      simp only [Nat.pow_zero, Nat.pow_one, Nat.reducePow, Nat.zero_add, Nat.add_zero, List.length_append, leB_length] at hc0 hr0 hc1 hr1 hc2 hr2 hc3 hr3
      have e0 := hr0.cap
      have e1 := hr1.cap
      have e2 := hr2.cap
      have e3 := hr3.cap
      simp only [List.length_append, leB_length] at e0 e1 e2 e3
      have p0 := hr0.drop l.length (by simp)
      have p1 := hr1.drop l.length (by simp)
      have p2 := hr2.drop l.length (by simp)
      have p3 := hr3.drop l.length (by simp)
      rw [List.drop_left] at p0 p1 p2 p3
      obtain ⟨f0, g0⟩ := get_of_le 1 X
      obtain ⟨f1, g1⟩ := get_of_le 2 X
      obtain ⟨f2, g2⟩ := get_of_le 4 X
      obtain ⟨f3, g3⟩ := get_of_le 8 X
      rw [show X % 256 ^ 8 = X from Nat.mod_eq_of_lt (by simpa using (by omega : X < 18446744073709551616))] at g3
      have G0 := get1_any p0 (n := 1) (by simp)
      have G1 := get2_any p1 (n := 2) (by simp)
      have G2 := get4_any p2 (n := 4) (by simp)
      have G3 := get8_any p3 (n := 8) (by simp)
      rw [f0, g0] at G0
      rw [f1, g1] at G1
      rw [f2, g2] at G2
      rw [f3, g3] at G3
      have z0 : Tm.pieceAt A0 l.length d0 = A0.map (fun x => x.add l.length) := if_neg (by omega)
      have z1 : Tm.pieceAt A1' l.length d1 = A1'.map (fun x => x.add l.length) := if_neg (by omega)
      have z2 : Tm.pieceAt A2' l.length d2 = A2'.map (fun x => x.add l.length) := if_neg (by omega)
      have z3 : Tm.pieceAt A3' l.length d3 = A3'.map (fun x => x.add l.length) := if_neg (by omega)
      rw [z0] at G0
      rw [z1] at G1
      rw [z2] at G2
      rw [z3] at G3
      clear z0 z1 z2 z3
      have G0 := Lib.hid G0
      have G1 := Lib.hid G1
      have G2 := Lib.hid G2
      have G3 := Lib.hid G3
      clear f0 f1 f2 f3 g0 g1 g2 g3 hV h4 hlt hk hR hx0 hx1
      go_wp2_with fail
      refine G0.out.mono ?_
      rintro e w5 ⟨rfl, rfl⟩
      go_wp2_with fail
      refine G1.out.mono ?_
      rintro e w5 ⟨rfl, rfl⟩
      go_wp2_with fail
      refine G2.out.mono ?_
      rintro e w5 ⟨rfl, rfl⟩
      go_wp2_with fail
      refine G3.out.mono ?_
      rintro e w5 ⟨rfl, rfl⟩
      go_wp2_with fail
      go_ret
      exact ⟨by simp [IntKind.wrap_u16], hB⟩

theorem octetBack_contract (H : Type) (enc : TypeId × Value → H) (W : World) (base : Nat) (args : Array Value) (ds gs : List (DataW H)) (before : List MemPlace)
    (hval0 : ∀ (j : Nat) t v, Try.f6.params[j]? = some t → args[j]? = some v → Value.okWide Try.prog W .any base t v)
    (hW : DataW.Whole enc Try.prog Try.f6.params.toList Rows.octetBackSpec.vars false W args.toList ds gs before) (hsz : (DataW.weightsEach Try.checked.prog (Try.f6.params.toList ++ Rows.octetBackSpec.plain.varTypes Try.checked.prog) (ds ++ gs)).all (· ≤ reachBytes) = true) :
    Calls Try.prog 6 args W fun e W' => ∃ v, e = .returned v ∧ Rows.octetBackSpec.post enc Try.prog Try.f6 false true false false W args v W' := by
  have hval : ∀ (j : Nat) t v, Try.f6.params[j]? = some t → args[j]? = some v → Value.okWide Try.prog W .any base t v := hval0
  have hW' := hW
  obtain ⟨p, q, hA0, hV, rfl, hfz, hnd⟩ := hW
  have hA : DataW.TrodAll enc Try.prog W 0 (fun _ => true) true Try.f6.params.toList args.toList ds p := hA0
  rw [Try.params6] at hA hval
  obtain ⟨v0, vs0, d0, ds0, p0, q0, hargs, rfl, rfl, h0, rr0⟩ := trodAll_cons hA
  obtain ⟨v1, vs1, d1, ds1, p1, q1, rfl, rfl, rfl, h1, rr1⟩ := trodAll_cons rr0
  obtain ⟨rfl, rfl, rfl⟩ := trodAll_nil rr1
  obtain rfl : args = #[v0, v1] := by cases args; simp_all
  obtain ⟨rfl, rfl⟩ := trodVars_none hV
  obtain ⟨a0, len0, cap0, rfl⟩ := okWide_slice Try.underlying22 (hval 0 22 v0 rfl rfl)
  have k0 := h0
  have lt0 : ∀ x ∈ p0, x.block < W.heap.size := by obtain ⟨m, hm⟩ := k0; exact DataW.trod_lt m _ _ _ hm
  obtain ⟨l0, n0, r0, dd0⟩ : ∃ l : List UInt8, len0 = l.length ∧ Rda W a0 cap0 l ∧ RowOf d0 l := by
    obtain ⟨fuel, hf⟩ := h0
    obtain ⟨A, l, c, hv, hr, hx⟩ := open_bytes tU8 (by kernel_rfl) (by simpa [Value.cells] using hf)
    obtain ⟨rfl, rfl, rfl⟩ : a0 = A ∧ len0 = l.length ∧ cap0 = c := by simpa using hv
    exact ⟨l, rfl, hr, hx⟩
  obtain ⟨x1, rfl, rfl, rfl, w1⟩ := open_int Try.underlying23 (hval 1 23 v1 rfl rfl) h1
  have b1 := bounds_u64 w1
  have s0 : l0.length ≤ 140737488351232 := by
    rcases dd0 with ⟨_, h⟩ | ⟨zs, sp, hd, hl⟩
    · rw [h]; simp
    · subst hd
      have := sized_slice hsz (j := 0) (t := 22) (e := 5) rfl rfl Try.underlying22
      rw [show Try.checked.prog.bytesOf 5 = 1 from by kernel_rfl] at this
      unfold lits at this
      simp only [List.length_map] at this
      have h47 : reachBytes ≤ 140737488351232 := by decide
      omega
  clear hA0 hval0
  refine (octetBack_walk r0 n0 (by omega) x1 b1.1 (by omega)).mono fun e W' ⟨he, bel⟩ => ?_
  subst he
  exact ⟨_, rfl, _, _, _, [], _, [], hW', trodAll_mk1 (shut_bool Try.underlying4 _), (trodAll_cons_mk (Below.trod laid_out (by kernel_rfl) (of_decide_eq_true (by kernel_rfl)) k0 bel lt0) (trodAll_cons_mk (shut_int Try.underlying23 w1) trodAll_mk0)), rfl, bel.frame _, fun h => by cases h⟩

theorem octetBack_lifted (os : Os) (started : os.Started) (H : Type) (enc : TypeId × Value → H) :
    ReturnsInHanded {} Try.checked os 6 .any (Rows.octetBackSpec.pre6 enc Try.prog Try.f6 Rows.octetBackRow.domain false) (Rows.octetBackSpec.post enc Try.prog Try.f6 false true false false) := by
  refine returnsInHanded_of_change_sized (C := Try.checked) own_knob started (by kernel_rfl) Try.func6
    (ChangeSpec.witness6 (enc := enc) (C := Try.checked) false ⟨#[], #[.slice none 0 0, .int .u64 0], []⟩ 8 (by kernel_rfl) (by kernel_rfl) (by kernel_rfl) (by kernel_rfl)) ?_
  intro W base args ds gs before hval hW _ hsz _
  exact octetBack_contract H enc W base args ds gs before hval hW hsz

theorem octetBack_holds : Rows.OctetBackSaid :=
  OpenClaim.holds_of_wide 6 Try.f6 rfl rfl rfl rfl rfl rfl rfl ⟨rfl, rfl, rfl, rfl, rfl⟩ rfl rfl rfl rfl rfl (by kernel_rfl) Try.func6 (by kernel_rfl)
    (of_decide_eq_true (by kernel_rfl)) (by unfold Func.isWrapper; first | (rw [if_pos (by decide +kernel)]; kernel_rfl) | (rw [if_neg (by decide +kernel)]; exact ⟨rfl, rfl⟩))
    (fun os started H enc _ => octetBack_lifted os started H enc)
#print axioms octetBack_holds
end Go.Proofs.Ytaldpngilgaciaa
