/- Layer 2 (huff): slices' stable sort at ints: the merge, one element behind. Joined of texts: Layer 2 (huff): slices' stable sort at ints: the swap of two rows. Layer 2 (huff): slices' stable sort at ints: the rotation. Layer 2 (huff): slices' stable sort at ints: insertion. Layer 2 (huff): slices' stable sort at ints: the merge, one element ahead. -/
import Derived.Test.YtpldapjcojjicaaSt4
import Derived.Test.YtpldapjcojjicaaProg
import Derived.Shelf.SlSortCmp.Kit1
import Derived.Sort.WalkB2
import Derived.Sort.WalkB12
import Derived.Deep.LoopGhost
namespace Go.Proofs.Ytpldapjcojjicaa.B
open Go.Proofs Go.Shelf Go.RowKit Go.Lib Go.Sort
set_option linter.unusedVariables false
set_option linter.unusedSimpArgs false
variable {α : Type} [Inhabited α]
/-- What a walk over the sort leans on; the program is open. -/
structure P1 (P : Program) : Prop where
  mixed : P.follows .mixedOrders = true
  t0 : P.underlying 0 = some (.tuple #[])
  a0 : ∀ w, (isAgg 0).run P w = .ok false w
  z0 : ∀ w, (Go.sizeOf 0).run P w = .ok 1 w
  v0 : ∀ w, (zeroValue 0).run P w = .ok (.tuple #[]) w
  t3 : P.underlying 3 = some (.int .i64)
  a3 : ∀ w, (isAgg 3).run P w = .ok false w
  z3 : ∀ w, (Go.sizeOf 3).run P w = .ok 1 w
  v3 : ∀ w, (zeroValue 3).run P w = .ok (.int .i64 0) w
  t4 : P.underlying 4 = some .bool
  a4 : ∀ w, (isAgg 4).run P w = .ok false w
  z4 : ∀ w, (Go.sizeOf 4).run P w = .ok 1 w
  v4 : ∀ w, (zeroValue 4).run P w = .ok (.bool false) w
  t73 : P.underlying 73 = some (.int .u64)
  a73 : ∀ w, (isAgg 73).run P w = .ok false w
  z73 : ∀ w, (Go.sizeOf 73).run P w = .ok 1 w
  v73 : ∀ w, (zeroValue 73).run P w = .ok (.int .u64 0) w
  t51 : P.underlying 51 = some (.slice 3)
  a51 : ∀ w, (isAgg 51).run P w = .ok false w
  z51 : ∀ w, (Go.sizeOf 51).run P w = .ok 1 w
  v51 : ∀ w, (zeroValue 51).run P w = .ok (.slice none 0 0) w
  t103 : P.underlying 103 = some (.func #[3, 3] #[3] false)
  a103 : ∀ w, (isAgg 103).run P w = .ok false w
  z103 : ∀ w, (Go.sizeOf 103).run P w = .ok 1 w
  v103 : ∀ w, (zeroValue 103).run P w = .ok (.nilFunc) w
  f61 : P.funcs[61]? = some Try.f61
  e61 : ∀ args w, (callFunc 61 args).run P w = .ok (.enter 61 args) w
  f67 : P.funcs[67]? = some Try.f67
  e67 : ∀ args w, (callFunc 67 args).run P w = .ok (.enter 67 args) w
  f71 : P.funcs[71]? = some Try.f71
  e71 : ∀ args w, (callFunc 71 args).run P w = .ok (.enter 71 args) w
  f72 : P.funcs[72]? = some Try.f72
  e72 : ∀ args w, (callFunc 72 args).run P w = .ok (.enter 72 args) w
  f74 : P.funcs[74]? = some Try.f74
  e74 : ∀ args w, (callFunc 74 args).run P w = .ok (.enter 74 args) w
  f76 : P.funcs[76]? = some Try.f76
  e76 : ∀ args w, (callFunc 76 args).run P w = .ok (.enter 76 args) w
theorem P1.try_ : P1 Try.prog where
  mixed := by kernel_rfl
  t0 := Try.underlying0
  a0 := Try.isAgg0
  z0 := Try.sizeOf0
  v0 := Try.zeroValue0
  t3 := Try.underlying3
  a3 := Try.isAgg3
  z3 := Try.sizeOf3
  v3 := Try.zeroValue3
  t4 := Try.underlying4
  a4 := Try.isAgg4
  z4 := Try.sizeOf4
  v4 := Try.zeroValue4
  t73 := Try.underlying73
  a73 := Try.isAgg73
  z73 := Try.sizeOf73
  v73 := Try.zeroValue73
  t51 := Try.underlying51
  a51 := Try.isAgg51
  z51 := Try.sizeOf51
  v51 := Try.zeroValue51
  t103 := Try.underlying103
  a103 := Try.isAgg103
  z103 := Try.sizeOf103
  v103 := Try.zeroValue103
  f61 := Try.func61
  e61 := fun _ _ => by go_simp
  f67 := Try.func67
  e67 := fun _ _ => by go_simp
  f71 := Try.func71
  e71 := fun _ _ => by go_simp
  f72 := Try.func72
  e72 := fun _ _ => by go_simp
  f74 := Try.func74
  e74 := fun _ _ => by go_simp
  f76 := Try.func76
  e76 := fun _ _ => by go_simp

set_option maxHeartbeats 4000000 in
set_option maxRecDepth 1000000 in
theorem swap1 (enc : α → Value) (P : Program) (L : P1 P) (w0 W : World) (blk off N cap a b n : Nat) (d0 d : Array α) (cmpv : Value) (R : Row1 enc w0 blk off d0) (hd0 : d0.size = N) (hd : d.size = N) (S : SW enc w0 blk off d W) (hab : a + n ≤ b) (hb : b + n ≤ N) (hN : N < 4611686018427387904) :
    Calls P 76 #[.slice (some ⟨blk, off, none⟩) N cap, .int .i64 a, .int .i64 b, .int .i64 n, cmpv] W fun e W' => e = .returned (.tuple #[]) ∧ ∃ d', SW enc w0 blk off d' W' ∧ SwR a b n d d' := by
  have mixed := L.mixed; have t0 := L.t0; have a0 := L.a0; have z0 := L.z0; have v0 := L.v0; have t3 := L.t3; have a3 := L.a3; have z3 := L.z3; have v3 := L.v3; have t4 := L.t4; have a4 := L.a4; have z4 := L.z4; have v4 := L.v4; have t73 := L.t73; have a73 := L.a73; have z73 := L.z73; have v73 := L.v73; have t51 := L.t51; have a51 := L.a51; have z51 := L.z51; have v51 := L.v51; have t103 := L.t103; have a103 := L.a103; have z103 := L.z103; have v103 := L.v103; have hcl0 := R.hO.cells; simp only [Value.cells] at hcl0; have hst := R.hO.store P; have u51 := run_underlying L.t51
  have S0 : Aside (SW enc w0 blk off d W) := S
  clear S
  go_enter L.f76, Try.ntmps76
  go_wp2
  go_loopg [10] n (fun gh v10 wr => ∃ (i : Nat) (dk : Array α), v10 = .int .i64 (i : Int) ∧ i ≤ n ∧ n - i ≤ gh ∧ dk.size = N ∧ Aside (SW enc w0 blk off dk wr) ∧ Aside (SwR a b i d dk))
  case atStart => exact ⟨0, d, rfl, Nat.zero_le _, by omega, hd, S0, SwR.zero a b d⟩
  case round =>
    clear S0
    obtain ⟨i, dk, rfl, hi, hg, hdk, S1, X1⟩ := hrel
    by_cases hc : i < n
    · have hcb : decide ((i : Int) < (n : Int)) = true := decide_eq_true (by omega)
      have hcb' : decide (i < n) = true := decide_eq_true hc
      go_wp2_with fail
      obtain ⟨iN, hiN⟩ : ∃ q, q = a + i := ⟨_, rfl⟩
      obtain ⟨jN, hjN⟩ : ∃ q, q = b + i := ⟨_, rfl⟩
      have ea1 : ((a : Int) + (i : Int)).toNat = iN := by omega
      have pa1 : (0 : Int) ≤ (a : Int) + (i : Int) := by omega
      have ba1 : (a : Int) + (i : Int) < (N : Int) := by omega
      have ra1 : IntKind.i64.wrap ((a : Int) + (i : Int)) = (a : Int) + (i : Int) := by rw [IntKind.wrap_i64]; omega
      have ec1 : ((b : Int) + (i : Int)).toNat = jN := by omega
      have pc1 : (0 : Int) ≤ (b : Int) + (i : Int) := by omega
      have bc1 : (b : Int) + (i : Int) < (N : Int) := by omega
      have rc1 : IntKind.i64.wrap ((b : Int) + (i : Int)) = (b : Int) + (i : Int) := by rw [IntKind.wrap_i64]; omega
      obtain ⟨x1, hx1⟩ : ∃ x, x = dk[a + i]! := ⟨_, rfl⟩
      obtain ⟨y1, hy1⟩ : ∃ x, x = dk[b + i]! := ⟨_, rfl⟩
      have S2 : Aside (SW enc w0 blk off (swp dk (a + i) (b + i)) ((wr.setCell ⟨blk, off + iN, none⟩ (enc y1)).setCell ⟨blk, off + jN, none⟩ (enc x1)).drew) := by rw [hiN, hjN, hx1, hy1]; exact S1.out.swapped R (a + i) (b + i) (by omega) (by omega)
      have ca1 := S1.out.c1 R (by omega) (a + i) (by omega)
      have cb1 := S1.out.c1 R (by omega) (b + i) (by omega)
      have fa1 := S1.out.f1 R (by omega) (a + i) (by omega)
      have fb1 := S1.out.f1 R (by omega) (b + i) (by omega)
      obtain ⟨u1, cc1⟩ := S1.out.c2 R (by omega) (a + i) (b + i) (by omega) (by omega) (enc y1)
      rw [← hjN, ← hiN] at cc1
      rw [← hx1, ← hiN] at ca1
      rw [← hy1, ← hjN] at cb1
      rw [← hiN] at fa1
      rw [← hjN] at fb1
      clear S1 hx1 hy1 hiN hjN
      go_wp2_with fail
      go_big_region_o
      clear ca1 cb1 cc1 fa1 fb1
      generalize ((wr.setCell ⟨blk, off + iN, none⟩ (enc y1)).setCell ⟨blk, off + jN, none⟩ (enc x1)).drew = w2 at S2 ⊢
      clear ea1 pa1 ba1 ra1 ec1 pc1 bc1 rc1
      go_wp2
      go_roundg (n - (i + 1))
      case measure => omega
      case rel => exact ⟨i + 1, swp dk (a + i) (b + i), by go_num, by omega, Nat.le_refl _, by rw [swp_size]; exact hdk, S2, X1.out.step (by omega) (by omega)⟩
    · have hcb : decide ((i : Int) < (n : Int)) = false := decide_eq_false (by omega)
      have hcb' : decide (i < n) = false := decide_eq_false hc
      obtain rfl : i = n := by omega
      go_wp2
      go_end0
      exact ⟨rfl, dk, S1.out, X1.out⟩
/-- .. at whatever numbers that are these. -/
theorem swap1' (enc : α → Value) (P : Program) (L : P1 P) (w0 W : World) (blk off N cap a b n : Nat) (d0 d : Array α) (cmpv : Value) (R : Row1 enc w0 blk off d0) (hd0 : d0.size = N) (hd : d.size = N) (S : SW enc w0 blk off d W) (hab : a + n ≤ b) (hb : b + n ≤ N) (hN : N < 4611686018427387904) (A B M : Int) (hA : A = (a : Int)) (hB : B = (b : Int)) (hM : M = (n : Int)) :
    Calls P 76 #[.slice (some ⟨blk, off, none⟩) N cap, .int .i64 A, .int .i64 B, .int .i64 M, cmpv] W fun e W' => e = .returned (.tuple #[]) ∧ ∃ d', SW enc w0 blk off d' W' ∧ SwR a b n d d' := by
  subst hA hB hM
  exact swap1 enc P L w0 W blk off N cap a b n d0 d cmpv R hd0 hd S hab hb hN
end Go.Proofs.Ytpldapjcojjicaa.B

namespace Go.Proofs.Ytpldapjcojjicaa.B
open Go.Proofs Go.Shelf Go.RowKit Go.Lib Go.Sort
set_option linter.unusedVariables false
set_option linter.unusedSimpArgs false
variable {α : Type} [Inhabited α]

set_option maxHeartbeats 4000000 in
set_option maxRecDepth 1000000 in
theorem rot1 (enc : α → Value) (P : Program) (L : P1 P) (w0 W : World) (blk off N cap a m b : Nat) (d0 d : Array α) (cmpv : Value) (R : Row1 enc w0 blk off d0) (hd0 : d0.size = N) (hd : d.size = N) (S : SW enc w0 blk off d W) (ham : a < m) (hmb : m < b) (hb : b ≤ N) (hN : N < 4611686018427387904) :
    Calls P 74 #[.slice (some ⟨blk, off, none⟩) N cap, .int .i64 a, .int .i64 m, .int .i64 b, cmpv] W fun e W' => e = .returned (.tuple #[]) ∧ ∃ d', SW enc w0 blk off d' W' ∧ Rot a m b d d' := by
  have mixed := L.mixed; have t0 := L.t0; have a0 := L.a0; have z0 := L.z0; have v0 := L.v0; have t3 := L.t3; have a3 := L.a3; have z3 := L.z3; have v3 := L.v3; have t4 := L.t4; have a4 := L.a4; have z4 := L.z4; have v4 := L.v4; have t73 := L.t73; have a73 := L.a73; have z73 := L.z73; have v73 := L.v73; have t51 := L.t51; have a51 := L.a51; have z51 := L.z51; have v51 := L.v51; have t103 := L.t103; have a103 := L.a103; have z103 := L.z103; have v103 := L.v103; have hcl0 := R.hO.cells; simp only [Value.cells] at hcl0; have hst := R.hO.store P; have u51 := run_underlying L.t51; have e76 := L.e76
  have S0 : Aside (SW enc w0 blk off d W) := S
  clear S
  go_enter L.f74, Try.ntmps74
  go_wp2
  go_loopg [10, 11] b (fun gh v10 v11 wr => ∃ (i j : Nat) (dk : Array α), v10 = .int .i64 (i : Int) ∧ v11 = .int .i64 (j : Int) ∧ 0 < i ∧ 0 < j ∧ i ≤ m ∧ m + j ≤ b ∧ i + j ≤ gh ∧ dk.size = N ∧ Aside (SW enc w0 blk off dk wr) ∧ Aside (RotC a m b i j d dk))
  case atStart => exact ⟨m - a, b - m, d, by congr 1; omega, by congr 1; omega, by omega, by omega, by omega, by omega, by omega, hd, S0, RotC.start a m b d (by omega) (by omega)⟩
  case round =>
    clear S0
    obtain ⟨i, j, dk, rfl, rfl, hi, hj, him, hjb, hg, hdk, S1, X1⟩ := hrel
    by_cases hc : i = j
    · subst hc
      have hcb : ((i : Int) != (i : Int)) = false := by simp
      go_wp2_with (go_at_call 76; refine (swap1' enc P L w0 _ blk off N cap (m - i) (m) i d0 dk cmpv R hd0 hdk S1.out (by omega) (by omega) hN _ _ _ (by omega) rfl rfl).mono ?_; rintro e w1 ⟨rfl, d1, S2, X2⟩; have S2 : Aside (SW enc w0 blk off d1 w1) := S2; have X2 : Aside (SwR (m - i) (m) i dk d1) := X2)
      go_end0
      exact ⟨rfl, d1, S2.out, X1.out.eq him X2.out⟩
    · have hcb : ((i : Int) != (j : Int)) = true := by simp; omega
      by_cases hlt : j < i
      · have hlt' : decide ((j : Int) < (i : Int)) = true := decide_eq_true (by omega)
        have hlt'' : decide (j < i) = true := decide_eq_true hlt
        go_wp2_with (go_at_call 76; refine (swap1' enc P L w0 _ blk off N cap (m - i) (m) j d0 dk cmpv R hd0 hdk S1.out (by omega) (by omega) hN _ _ _ (by omega) rfl rfl).mono ?_; rintro e w1 ⟨rfl, d1, S2, X2⟩; have S2 : Aside (SW enc w0 blk off d1 w1) := S2; have X2 : Aside (SwR (m - i) (m) j dk d1) := X2)
        go_roundg (i + j - 1)
        case measure => omega
        case rel => exact ⟨i - j, j, d1, by congr 1; omega, rfl, by omega, by omega, by omega, by omega, by omega, by rw [X2.out.size]; exact hdk, S2, X1.out.gt hlt him X2.out⟩
      · have hlt' : decide ((j : Int) < (i : Int)) = false := decide_eq_false (by omega)
        have hlt'' : decide (j < i) = false := decide_eq_false hlt
        go_wp2_with (go_at_call 76; refine (swap1' enc P L w0 _ blk off N cap (m - i) (m + j - i) i d0 dk cmpv R hd0 hdk S1.out (by omega) (by omega) hN _ _ _ (by omega) (by omega) rfl).mono ?_; rintro e w1 ⟨rfl, d1, S2, X2⟩; have S2 : Aside (SW enc w0 blk off d1 w1) := S2; have X2 : Aside (SwR (m - i) (m + j - i) i dk d1) := X2)
        go_roundg (i + j - 1)
        case measure => omega
        case rel => exact ⟨i, j - i, d1, rfl, by congr 1; omega, by omega, by omega, by omega, by omega, by omega, by rw [X2.out.size]; exact hdk, S2, X1.out.lt (by omega) him X2.out⟩
theorem rot1' (enc : α → Value) (P : Program) (L : P1 P) (w0 W : World) (blk off N cap a m b : Nat) (d0 d : Array α) (cmpv : Value) (R : Row1 enc w0 blk off d0) (hd0 : d0.size = N) (hd : d.size = N) (S : SW enc w0 blk off d W) (ham : a < m) (hmb : m < b) (hb : b ≤ N) (hN : N < 4611686018427387904) (A M B : Int) (hA : A = (a : Int)) (hM : M = (m : Int)) (hB : B = (b : Int)) :
    Calls P 74 #[.slice (some ⟨blk, off, none⟩) N cap, .int .i64 A, .int .i64 M, .int .i64 B, cmpv] W fun e W' => e = .returned (.tuple #[]) ∧ ∃ d', SW enc w0 blk off d' W' ∧ Rot a m b d d' := by
  subst hA hM hB
  exact rot1 enc P L w0 W blk off N cap a m b d0 d cmpv R hd0 hd S ham hmb hb hN
end Go.Proofs.Ytpldapjcojjicaa.B

namespace Go.Proofs.Ytpldapjcojjicaa.B
open Go.Proofs Go.Shelf Go.RowKit Go.Lib Go.Sort
set_option linter.unusedVariables false
set_option linter.unusedSimpArgs false
variable {α : Type} [Inhabited α]

set_option maxHeartbeats 4000000 in
set_option maxRecDepth 1000000 in
theorem ins1 (enc : α → Value) (P : Program) (L : P1 P) (cf : α → α → Int) (key : α → Int) (hcf0 : ∀ x y, cf x y < 0 ↔ key x < key y) (g : Nat) (cb : Array Value) (eg : ∀ args w, (callFunc g args).run P w = .ok (.enter g args) w) (w0 W : World) (blk off N cap a b : Nat) (d0 d : Array α) (R : Row1 enc w0 blk off d0) (hcmp : CmpLays1 P g cb enc cf blk off N w0) (hd0 : d0.size = N) (hd : d.size = N) (S : SW enc w0 blk off d W) (hab : a ≤ b) (hb : b ≤ N) (hN : N < 4611686018427387904) :
    Calls P 71 #[.slice (some ⟨blk, off, none⟩) N cap, .int .i64 a, .int .i64 b, .func (.func g) #[] cb] W fun e W' => e = .returned (.tuple #[]) ∧ ∃ d', SW enc w0 blk off d' W' ∧ Stp key a b d d' ∧ SrtOn key d' a b := by
  have mixed := L.mixed; have t0 := L.t0; have a0 := L.a0; have z0 := L.z0; have v0 := L.v0; have t3 := L.t3; have a3 := L.a3; have z3 := L.z3; have v3 := L.v3; have t4 := L.t4; have a4 := L.a4; have z4 := L.z4; have v4 := L.v4; have t73 := L.t73; have a73 := L.a73; have z73 := L.z73; have v73 := L.v73; have t51 := L.t51; have a51 := L.a51; have z51 := L.z51; have v51 := L.v51; have t103 := L.t103; have a103 := L.a103; have z103 := L.z103; have v103 := L.v103; have hcl0 := R.hO.cells; simp only [Value.cells] at hcl0; have hst := R.hO.store P; have u51 := run_underlying L.t51
  have S0 : Aside (SW enc w0 blk off d W) := S
  have HC : Aside _ := hcmp
  have hcf : Aside _ := hcf0
  clear S hcmp hcf0
  go_enter L.f71, Try.ntmps71
  go_wp2
  go_loopg [8] (b - a) (fun gh v8 wr => ∃ (i : Nat) (dk : Array α), v8 = .int .i64 (i : Int) ∧ a < i ∧ i ≤ b + 1 ∧ b + 1 - i ≤ gh + 1 ∧ (i ≤ b ∨ a = b) ∧ dk.size = N ∧ Aside (SW enc w0 blk off dk wr) ∧ Aside (Stp key a b d dk) ∧ Aside (SrtOn key dk a (min i b)))
  case atStart => exact ⟨a + 1, d, by go_num, by omega, by omega, by omega, by omega, hd, S0, Stp.refl d, SrtOn.one (by omega)⟩
  case round =>
    clear S0
    obtain ⟨i, dk, rfl, hai, hib, hg1, hie, hdk, S1, X1, O1⟩ := hrel
    by_cases hlt : i < b
    · have hltz : decide ((i : Int) < (b : Int)) = true := decide_eq_true (by omega)
      have hltz' : decide (i < b) = true := decide_eq_true hlt
      obtain ⟨wo, rfl⟩ : ∃ wo : World, wo = wr := ⟨_, rfl⟩
      go_wp2
      go_loopg [9] i (fun gh v9 wr => ∃ (j : Nat) (dj : Array α), v9 = .int .i64 (j : Int) ∧ a ≤ j ∧ j ≤ i ∧ j ≤ gh ∧ dj.size = N ∧ Aside (SW enc w0 blk off dj wr) ∧ Aside (Stp key a b d dj) ∧ Aside (InsR key a j i dj))
      case atStart => exact ⟨i, dk, rfl, by omega, Nat.le_refl _, Nat.le_refl _, hdk, S1, X1, InsR.start (O1.out.mono (Nat.le_refl _) (by omega))⟩
      case round =>
        clear S1 X1 O1 hdk
        obtain ⟨j, dj, rfl, haj, hji, hg2, hdj, S1, X1, I1⟩ := hrel
        by_cases hja : a < j
        · clear hltz hltz'
          by_cases hl : key dj[j]! < key dj[j - 1]!
          · obtain ⟨jp, rfl⟩ : ∃ jp, j = jp + 1 := ⟨j - 1, by omega⟩
            have hl : key dj[jp + 1]! < key dj[jp]! := hl
            have hjaz : decide ((a : Int) < (jp : Int) + 1) = true := decide_eq_true (by omega)
            have hwp : IntKind.i64.wrap (jp : Int) = (jp : Int) := by rw [IntKind.wrap_i64]; omega
            have ea0 : ((jp : Int) + 1).toNat = jp + 1 := by omega
            have pa0 : (0 : Int) ≤ (jp : Int) + 1 := by omega
            have ba0 : (jp : Int) + 1 < (N : Int) := by omega
            have ra0 : IntKind.i64.wrap ((jp : Int) + 1) = (jp : Int) + 1 := by rw [IntKind.wrap_i64]; omega
            have ec0 : ((jp : Int)).toNat = jp := by omega
            have pc0 : (0 : Int) ≤ (jp : Int) := by omega
            have bc0 : (jp : Int) < (N : Int) := by omega
            have rc0 : IntKind.i64.wrap ((jp : Int)) = (jp : Int) := by rw [IntKind.wrap_i64]; omega
            obtain ⟨x0, hx0⟩ : ∃ x, x = dj[jp + 1]! := ⟨_, rfl⟩
            obtain ⟨y0, hy0⟩ : ∃ x, x = dj[jp]! := ⟨_, rfl⟩
            have la0 := S1.out.cl R (by omega) (jp + 1) (by omega)
            have lb0 := S1.out.cl R (by omega) (jp) (by omega)
            rw [← hx0] at la0
            rw [← hy0] at lb0
            have hc0 := S1.out.cmp HC.out (by omega) x0 y0
            have hd0' : decide (cf x0 y0 < 0) = true := by rw [hx0, hy0]; exact decide_eq_true ((hcf.out _ _).2 hl)
            clear hx0 hy0
            have hv0 := of_decide_eq_true hd0'
            go_wp2_with fail
            go_quiet_grown (first | (go_at_fn g; refine Calls.grown_of (hc0 _ _)))
            have S2 : Aside (SW enc w0 blk off dj (grow (wr.drewN nq) osq)) := S1.out.grown nq osq
            clear la0 lb0 hc0 S1
            generalize grow (wr.drewN nq) osq = w2 at S2 ⊢
            clear nq osq
            clear ea0 pa0 ba0 ra0 ec0 pc0 bc0 rc0
            go_wp2_with fail
            obtain ⟨iN, hiN⟩ : ∃ nn, nn = jp + 1 := ⟨_, rfl⟩
            obtain ⟨jN, hjN⟩ : ∃ nn, nn = jp := ⟨_, rfl⟩
            have ea1 : ((jp : Int) + 1).toNat = iN := by omega
            have pa1 : (0 : Int) ≤ (jp : Int) + 1 := by omega
            have ba1 : (jp : Int) + 1 < (N : Int) := by omega
            have ra1 : IntKind.i64.wrap ((jp : Int) + 1) = (jp : Int) + 1 := by rw [IntKind.wrap_i64]; omega
            have ec1 : ((jp : Int)).toNat = jN := by omega
            have pc1 : (0 : Int) ≤ (jp : Int) := by omega
            have bc1 : (jp : Int) < (N : Int) := by omega
            have rc1 : IntKind.i64.wrap ((jp : Int)) = (jp : Int) := by rw [IntKind.wrap_i64]; omega
            obtain ⟨x1, hx1⟩ : ∃ x, x = dj[jp + 1]! := ⟨_, rfl⟩
            obtain ⟨y1, hy1⟩ : ∃ x, x = dj[jp]! := ⟨_, rfl⟩
            have S3 : Aside (SW enc w0 blk off (swp dj (jp + 1) (jp)) ((w2.setCell ⟨blk, off + iN, none⟩ (enc y1)).setCell ⟨blk, off + jN, none⟩ (enc x1)).drew) := by rw [hiN, hjN, hx1, hy1]; exact S2.out.swapped R (jp + 1) (jp) (by omega) (by omega)
            have ca1 := S2.out.c1 R (by omega) (jp + 1) (by omega)
            have cb1 := S2.out.c1 R (by omega) (jp) (by omega)
            have fa1 := S2.out.f1 R (by omega) (jp + 1) (by omega)
            have fb1 := S2.out.f1 R (by omega) (jp) (by omega)
            obtain ⟨u1, cc1⟩ := S2.out.c2 R (by omega) (jp + 1) (jp) (by omega) (by omega) (enc y1)
            rw [← hiN, ← hjN] at cc1
            rw [← hx1, ← hiN] at ca1
            rw [← hy1, ← hjN] at cb1
            rw [← hiN] at fa1
            rw [← hjN] at fb1
            clear S2 hx1 hy1 hiN hjN
            go_wp2_with fail
            go_big_region_o
            clear ca1 cb1 cc1 fa1 fb1
            generalize ((w2.setCell ⟨blk, off + iN, none⟩ (enc y1)).setCell ⟨blk, off + jN, none⟩ (enc x1)).drew = w3 at S3 ⊢
            clear ea1 pa1 ba1 ra1 ec1 pc1 bc1 rc1
            go_wp2
            go_roundg jp
            case measure => omega
            case rel => exact ⟨jp, swp dj (jp + 1) jp, by first | rfl | go_num | (congr 1; omega), by omega, by omega, Nat.le_refl _, by rw [swp_size]; exact hdj, S3, X1.out.trans (stp_swp dj jp (by omega) (by omega) (by omega) (by omega)), I1.out.step hl (by omega) (by omega) (by omega)⟩
          · obtain ⟨jp, rfl⟩ : ∃ jp, j = jp + 1 := ⟨j - 1, by omega⟩
            have hl : ¬ key dj[jp + 1]! < key dj[jp]! := hl
            have O2 : Aside (SrtOn key dj a (i + 1)) := I1.out.stop (Or.inr hl)
            have hjaz : decide ((a : Int) < (jp : Int) + 1) = true := decide_eq_true (by omega)
            have hwp : IntKind.i64.wrap (jp : Int) = (jp : Int) := by rw [IntKind.wrap_i64]; omega
            have ea0 : ((jp : Int) + 1).toNat = jp + 1 := by omega
            have pa0 : (0 : Int) ≤ (jp : Int) + 1 := by omega
            have ba0 : (jp : Int) + 1 < (N : Int) := by omega
            have ra0 : IntKind.i64.wrap ((jp : Int) + 1) = (jp : Int) + 1 := by rw [IntKind.wrap_i64]; omega
            have ec0 : ((jp : Int)).toNat = jp := by omega
            have pc0 : (0 : Int) ≤ (jp : Int) := by omega
            have bc0 : (jp : Int) < (N : Int) := by omega
            have rc0 : IntKind.i64.wrap ((jp : Int)) = (jp : Int) := by rw [IntKind.wrap_i64]; omega
            obtain ⟨x0, hx0⟩ : ∃ x, x = dj[jp + 1]! := ⟨_, rfl⟩
            obtain ⟨y0, hy0⟩ : ∃ x, x = dj[jp]! := ⟨_, rfl⟩
            have la0 := S1.out.cl R (by omega) (jp + 1) (by omega)
            have lb0 := S1.out.cl R (by omega) (jp) (by omega)
            rw [← hx0] at la0
            rw [← hy0] at lb0
            have hc0 := S1.out.cmp HC.out (by omega) x0 y0
            have hd0' : decide (cf x0 y0 < 0) = false := by rw [hx0, hy0]; exact decide_eq_false (fun h => hl ((hcf.out _ _).1 h))
            clear hx0 hy0
            have hv0 := of_decide_eq_false hd0'
            go_wp2_with fail
            go_quiet_grown (first | (go_at_fn g; refine Calls.grown_of (hc0 _ _)))
            have S2 : Aside (SW enc w0 blk off dj (grow (wr.drewN nq) osq)) := S1.out.grown nq osq
            clear la0 lb0 hc0 S1
            generalize grow (wr.drewN nq) osq = w2 at S2 ⊢
            clear nq osq
            clear ea0 pa0 ba0 ra0 ec0 pc0 bc0 rc0
            go_wp2
            go_roundg (b - (i + 1))
            case measure => omega
            case rel => exact ⟨i + 1, dj, by go_num, by omega, by omega, by omega, by omega, hdj, S2, X1, O2.out.mono (Nat.le_refl _) (by omega)⟩
        · have hjaz : decide ((a : Int) < (j : Int)) = false := decide_eq_false (by omega)
          have hjaz' : decide (a < j) = false := decide_eq_false hja
          have S2 : Aside (SW enc w0 blk off dj wr.drew) := S1.out.drew
          clear S1
          go_wp2_with fail
          go_big_region_o
          all_goals go_wp2
          go_roundg (b - (i + 1))
          case measure => omega
          case rel => exact ⟨i + 1, dj, by go_num, by omega, by omega, by omega, by omega, hdj, S2, X1, (I1.out.stop (Or.inl (by omega))).mono (Nat.le_refl _) (by omega)⟩
    · have hltz : decide ((i : Int) < (b : Int)) = false := decide_eq_false (by omega)
      have hltz' : decide (i < b) = false := decide_eq_false hlt
      go_wp2
      go_end0
      exact ⟨rfl, dk, S1.out, X1.out, O1.out.mono (Nat.le_refl _) (by omega)⟩
theorem ins1' (enc : α → Value) (P : Program) (L : P1 P) (cf : α → α → Int) (key : α → Int) (hcf0 : ∀ x y, cf x y < 0 ↔ key x < key y) (g : Nat) (cb : Array Value) (eg : ∀ args w, (callFunc g args).run P w = .ok (.enter g args) w) (w0 W : World) (blk off N cap a b : Nat) (d0 d : Array α) (R : Row1 enc w0 blk off d0) (hcmp : CmpLays1 P g cb enc cf blk off N w0) (hd0 : d0.size = N) (hd : d.size = N) (S : SW enc w0 blk off d W) (hab : a ≤ b) (hb : b ≤ N) (hN : N < 4611686018427387904) (A B : Int) (hA : A = (a : Int)) (hB : B = (b : Int)) :
    Calls P 71 #[.slice (some ⟨blk, off, none⟩) N cap, .int .i64 A, .int .i64 B, .func (.func g) #[] cb] W fun e W' => e = .returned (.tuple #[]) ∧ ∃ d', SW enc w0 blk off d' W' ∧ Stp key a b d d' ∧ SrtOn key d' a b := by
  subst hA hB
  exact ins1 enc P L cf key hcf0 g cb eg w0 W blk off N cap a b d0 d R hcmp hd0 hd S hab hb hN
end Go.Proofs.Ytpldapjcojjicaa.B

namespace Go.Proofs.Ytpldapjcojjicaa.B
open Go.Proofs Go.Shelf Go.RowKit Go.Lib Go.Sort
set_option linter.unusedVariables false
set_option linter.unusedSimpArgs false
variable {α : Type} [Inhabited α]

set_option maxHeartbeats 4000000 in
set_option maxRecDepth 1000000 in
theorem symUp1 (enc : α → Value) (P : Program) (L : P1 P) (cf : α → α → Int) (key : α → Int) (hcf0 : ∀ x y, cf x y < 0 ↔ key x < key y) (g : Nat) (cb : Array Value) (eg : ∀ args w, (callFunc g args).run P w = .ok (.enter g args) w) (w0 W : World) (blk off N cap a m b : Nat) (d0 d : Array α) (R : Row1 enc w0 blk off d0) (hcmp : CmpLays1 P g cb enc cf blk off N w0) (hd0 : d0.size = N) (hd : d.size = N) (S : SW enc w0 blk off d W) (ham : a < m) (hmb : m < b) (hb : b ≤ N) (hN : N < 4611686018427387904) (O1 : SrtOn key d a m) (O2 : SrtOn key d m b) (h1 : m = a + 1) :
    Calls P 72 #[.slice (some ⟨blk, off, none⟩) N cap, .int .i64 a, .int .i64 m, .int .i64 b, .func (.func g) #[] cb] W fun e W' => e = .returned (.tuple #[]) ∧ ∃ d', SW enc w0 blk off d' W' ∧ Stp key a b d d' ∧ SrtOn key d' a b := by
  have mixed := L.mixed; have t0 := L.t0; have a0 := L.a0; have z0 := L.z0; have v0 := L.v0; have t3 := L.t3; have a3 := L.a3; have z3 := L.z3; have v3 := L.v3; have t4 := L.t4; have a4 := L.a4; have z4 := L.z4; have v4 := L.v4; have t73 := L.t73; have a73 := L.a73; have z73 := L.z73; have v73 := L.v73; have t51 := L.t51; have a51 := L.a51; have z51 := L.z51; have v51 := L.v51; have t103 := L.t103; have a103 := L.a103; have z103 := L.z103; have v103 := L.v103; have hcl0 := R.hO.cells; simp only [Value.cells] at hcl0; have hst := R.hO.store P; have u51 := run_underlying L.t51
  have S0 : Aside (SW enc w0 blk off d W) := S
  have HC : Aside _ := hcmp
  have hcf : Aside _ := hcf0
  have O1 : Aside _ := O1
  have O2 : Aside _ := O2
  clear S hcmp hcf0
  have k1 : ((m : Int) - (a : Int) == 1) = true := by simp; omega
  have H1 : Aside _ := h1
  clear h1
  go_enter L.f72, Try.ntmps72
  go_wp2
  go_loopg [10, 11, 12] b (fun gh v10 v11 v12 wr => ∃ (i j : Nat), v10 = .int .i64 (i : Int) ∧ v11 = .int .i64 (j : Int) ∧ j - i ≤ gh ∧ Aside (SW enc w0 blk off d wr) ∧ Aside (SrU key d a m b i j))
  case atStart => exact ⟨m, b, rfl, rfl, by omega, S0, SrU.start key d a m b (by omega)⟩
  case round =>
    clear S0
    obtain ⟨i, j, rfl, rfl, hg, S1, X1⟩ := hrel
    have l1 := X1.out.l1; have l2 := X1.out.l2; have l3 := X1.out.l3
    by_cases hc : i < j
    · have hcb : decide ((i : Int) < (j : Int)) = true := decide_eq_true (by omega)
      have hcb' : decide (i < j) = true := decide_eq_true hc
      by_cases hl : key d[(i + j) / 2]! < key d[a]!
      · have X2 : Aside (SrU key d a m b ((i + j) / 2 + 1) j) := X1.out.left O2.out (by omega) (by omega) hl
        clear X1
        have ea0 : (((i : Int) + (j : Int)) / 2).toNat = (i + j) / 2 := by omega
        have pa0 : (0 : Int) ≤ ((i : Int) + (j : Int)) / 2 := by omega
        have ba0 : ((i : Int) + (j : Int)) / 2 < (N : Int) := by omega
        have ra0 : IntKind.i64.wrap (((i : Int) + (j : Int)) / 2) = ((i : Int) + (j : Int)) / 2 := by rw [IntKind.wrap_i64]; omega
        have ec0 : ((a : Int)).toNat = a := by omega
        have pc0 : (0 : Int) ≤ (a : Int) := by omega
        have bc0 : (a : Int) < (N : Int) := by omega
        have rc0 : IntKind.i64.wrap ((a : Int)) = (a : Int) := by rw [IntKind.wrap_i64]; omega
        obtain ⟨x0, hx0⟩ : ∃ x, x = d[(i + j) / 2]! := ⟨_, rfl⟩
        obtain ⟨y0, hy0⟩ : ∃ x, x = d[a]! := ⟨_, rfl⟩
        have la0 := S1.out.cl R (by omega) ((i + j) / 2) (by omega)
        have lb0 := S1.out.cl R (by omega) (a) (by omega)
        rw [← hx0] at la0
        rw [← hy0] at lb0
        have hc0 := S1.out.cmp HC.out (by omega) x0 y0
        have hd0' : decide (cf x0 y0 < 0) = true := by rw [hx0, hy0]; exact decide_eq_true ((hcf.out _ _).2 hl)
        clear hx0 hy0
        have hv0 := of_decide_eq_true hd0'
        go_wp2_with fail
        go_quiet_grown (first | (go_at_fn g; refine Calls.grown_of (hc0 _ _)))
        have S2 : Aside (SW enc w0 blk off d (grow (wr.drewN nq) osq)) := S1.out.grown nq osq
        clear la0 lb0 hc0 S1
        generalize grow (wr.drewN nq) osq = w2 at S2 ⊢
        clear nq osq
        clear ea0 pa0 ba0 ra0 ec0 pc0 bc0 rc0
        have rh : IntKind.i64.wrap (((i : Int) + (j : Int)) / 2 + 1) = ((i : Int) + (j : Int)) / 2 + 1 := by rw [IntKind.wrap_i64]; omega
        go_wp2
        go_roundg (j - i - 1)
        case measure => omega
        case rel => exact ⟨(i + j) / 2 + 1, j, by first | rfl | (congr 1; omega), rfl, by omega, S2, X2⟩
      · have X2 : Aside (SrU key d a m b i ((i + j) / 2)) := X1.out.right O2.out (by omega) (by omega) hl
        clear X1
        have ea0 : (((i : Int) + (j : Int)) / 2).toNat = (i + j) / 2 := by omega
        have pa0 : (0 : Int) ≤ ((i : Int) + (j : Int)) / 2 := by omega
        have ba0 : ((i : Int) + (j : Int)) / 2 < (N : Int) := by omega
        have ra0 : IntKind.i64.wrap (((i : Int) + (j : Int)) / 2) = ((i : Int) + (j : Int)) / 2 := by rw [IntKind.wrap_i64]; omega
        have ec0 : ((a : Int)).toNat = a := by omega
        have pc0 : (0 : Int) ≤ (a : Int) := by omega
        have bc0 : (a : Int) < (N : Int) := by omega
        have rc0 : IntKind.i64.wrap ((a : Int)) = (a : Int) := by rw [IntKind.wrap_i64]; omega
        obtain ⟨x0, hx0⟩ : ∃ x, x = d[(i + j) / 2]! := ⟨_, rfl⟩
        obtain ⟨y0, hy0⟩ : ∃ x, x = d[a]! := ⟨_, rfl⟩
        have la0 := S1.out.cl R (by omega) ((i + j) / 2) (by omega)
        have lb0 := S1.out.cl R (by omega) (a) (by omega)
        rw [← hx0] at la0
        rw [← hy0] at lb0
        have hc0 := S1.out.cmp HC.out (by omega) x0 y0
        have hd0' : decide (cf x0 y0 < 0) = false := by rw [hx0, hy0]; exact decide_eq_false (fun h => hl ((hcf.out _ _).1 h))
        clear hx0 hy0
        have hv0 := of_decide_eq_false hd0'
        go_wp2_with fail
        go_quiet_grown (first | (go_at_fn g; refine Calls.grown_of (hc0 _ _)))
        have S2 : Aside (SW enc w0 blk off d (grow (wr.drewN nq) osq)) := S1.out.grown nq osq
        clear la0 lb0 hc0 S1
        generalize grow (wr.drewN nq) osq = w2 at S2 ⊢
        clear nq osq
        clear ea0 pa0 ba0 ra0 ec0 pc0 bc0 rc0
        go_wp2
        go_roundg (j - i - 1)
        case measure => omega
        case rel => exact ⟨i, (i + j) / 2, rfl, by first | rfl | (congr 1; omega), by omega, S2, X2⟩
    · have hcb : decide ((i : Int) < (j : Int)) = false := decide_eq_false (by omega)
      have hcb' : decide (i < j) = false := decide_eq_false hc
      have X2 : Aside (SrU key d a m b i i) := by have e : i = j := by omega
                                                  subst e; exact X1.out
      clear X1
      obtain ⟨wo, rfl⟩ : ∃ wo : World, wo = wr := ⟨_, rfl⟩
      go_wp2
      go_loopg [13] i (fun gh v13 wr => ∃ (q : Nat) (dk : Array α), v13 = .int .i64 (q : Int) ∧ a ≤ q ∧ q < i ∧ i - q ≤ gh ∧ dk.size = N ∧ Aside (SW enc w0 blk off dk wr) ∧ Aside (Rot a (a + 1) (q + 1) d dk))
      case atStart => exact ⟨a, d, rfl, Nat.le_refl _, by have := H1.out; omega, by omega, hd, S1, Rot.refl1 a (a + 1) d⟩
      case round =>
        clear S1
        obtain ⟨q, dk, rfl, haq, hqi, hg2, hdk, S1, Y1⟩ := hrel
        by_cases hq : q + 1 < i
        · have hqz : decide ((q : Int) < (i : Int) - 1) = true := decide_eq_true (by omega)
          have hqz' : decide ((q : Int) + 1 < (i : Int)) = true := decide_eq_true (by omega)
          go_wp2_with fail
          obtain ⟨iN, hiN⟩ : ∃ nn, nn = q := ⟨_, rfl⟩
          obtain ⟨jN, hjN⟩ : ∃ nn, nn = q + 1 := ⟨_, rfl⟩
          have ea1 : ((q : Int)).toNat = iN := by omega
          have pa1 : (0 : Int) ≤ (q : Int) := by omega
          have ba1 : (q : Int) < (N : Int) := by omega
          have ra1 : IntKind.i64.wrap ((q : Int)) = (q : Int) := by rw [IntKind.wrap_i64]; omega
          have ec1 : ((q : Int) + 1).toNat = jN := by omega
          have pc1 : (0 : Int) ≤ (q : Int) + 1 := by omega
          have bc1 : (q : Int) + 1 < (N : Int) := by omega
          have rc1 : IntKind.i64.wrap ((q : Int) + 1) = (q : Int) + 1 := by rw [IntKind.wrap_i64]; omega
          obtain ⟨x1, hx1⟩ : ∃ x, x = dk[q]! := ⟨_, rfl⟩
          obtain ⟨y1, hy1⟩ : ∃ x, x = dk[q + 1]! := ⟨_, rfl⟩
          have S3 : Aside (SW enc w0 blk off (swp dk (q) (q + 1)) ((wr.setCell ⟨blk, off + iN, none⟩ (enc y1)).setCell ⟨blk, off + jN, none⟩ (enc x1)).drew) := by rw [hiN, hjN, hx1, hy1]; exact S1.out.swapped R (q) (q + 1) (by omega) (by omega)
          have ca1 := S1.out.c1 R (by omega) (q) (by omega)
          have cb1 := S1.out.c1 R (by omega) (q + 1) (by omega)
          have fa1 := S1.out.f1 R (by omega) (q) (by omega)
          have fb1 := S1.out.f1 R (by omega) (q + 1) (by omega)
          obtain ⟨u1, cc1⟩ := S1.out.c2 R (by omega) (q) (q + 1) (by omega) (by omega) (enc y1)
          rw [← hjN, ← hiN] at cc1
          rw [← hx1, ← hiN] at ca1
          rw [← hy1, ← hjN] at cb1
          rw [← hiN] at fa1
          rw [← hjN] at fb1
          clear S1 hx1 hy1 hiN hjN
          go_wp2_with fail
          go_big_region_o
          clear ca1 cb1 cc1 fa1 fb1
          generalize ((wr.setCell ⟨blk, off + iN, none⟩ (enc y1)).setCell ⟨blk, off + jN, none⟩ (enc x1)).drew = w3 at S3 ⊢
          clear ea1 pa1 ba1 ra1 ec1 pc1 bc1 rc1
          go_wp2
          go_roundg (i - (q + 1))
          case measure => omega
          case rel => exact ⟨q + 1, swp dk q (q + 1), by first | rfl | go_num | (congr 1; omega), by omega, by omega, Nat.le_refl _, by rw [swp_size]; exact hdk, S3, Y1.out.up haq (by omega)⟩
        · have hqz : decide ((q : Int) < (i : Int) - 1) = false := decide_eq_false (by omega)
          have hqz' : decide ((q : Int) + 1 < (i : Int)) = false := decide_eq_false (by omega)
          have Y2 : Aside (Rot a (a + 1) i d dk) := by have e : q + 1 = i := by omega
                                                       subst e; exact Y1.out
          go_wp2
          refine bodyPost_ret (results_none rfl _ _ _) rfl ?_
          exact ⟨rfl, dk, S1.out, SrU.done (by have e := H1.out; rw [← e]; exact X2.out) (by have e := H1.out; rw [← e]; exact O2.out) (by omega) Y2.out⟩
end Go.Proofs.Ytpldapjcojjicaa.B

namespace Go.Proofs.Ytpldapjcojjicaa.B
open Go.Proofs Go.Shelf Go.RowKit Go.Lib Go.Sort
set_option linter.unusedVariables false
set_option linter.unusedSimpArgs false
variable {α : Type} [Inhabited α]

set_option maxHeartbeats 4000000 in
set_option maxRecDepth 1000000 in
theorem symDown1 (enc : α → Value) (P : Program) (L : P1 P) (cf : α → α → Int) (key : α → Int) (hcf0 : ∀ x y, cf x y < 0 ↔ key x < key y) (g : Nat) (cb : Array Value) (eg : ∀ args w, (callFunc g args).run P w = .ok (.enter g args) w) (w0 W : World) (blk off N cap a m b : Nat) (d0 d : Array α) (R : Row1 enc w0 blk off d0) (hcmp : CmpLays1 P g cb enc cf blk off N w0) (hd0 : d0.size = N) (hd : d.size = N) (S : SW enc w0 blk off d W) (ham : a < m) (hmb : m < b) (hb : b ≤ N) (hN : N < 4611686018427387904) (O1 : SrtOn key d a m) (O2 : SrtOn key d m b) (h1 : m ≠ a + 1) (h2 : b = m + 1) :
    Calls P 72 #[.slice (some ⟨blk, off, none⟩) N cap, .int .i64 a, .int .i64 m, .int .i64 b, .func (.func g) #[] cb] W fun e W' => e = .returned (.tuple #[]) ∧ ∃ d', SW enc w0 blk off d' W' ∧ Stp key a b d d' ∧ SrtOn key d' a b := by
  have mixed := L.mixed; have t0 := L.t0; have a0 := L.a0; have z0 := L.z0; have v0 := L.v0; have t3 := L.t3; have a3 := L.a3; have z3 := L.z3; have v3 := L.v3; have t4 := L.t4; have a4 := L.a4; have z4 := L.z4; have v4 := L.v4; have t73 := L.t73; have a73 := L.a73; have z73 := L.z73; have v73 := L.v73; have t51 := L.t51; have a51 := L.a51; have z51 := L.z51; have v51 := L.v51; have t103 := L.t103; have a103 := L.a103; have z103 := L.z103; have v103 := L.v103; have hcl0 := R.hO.cells; simp only [Value.cells] at hcl0; have hst := R.hO.store P; have u51 := run_underlying L.t51
  have S0 : Aside (SW enc w0 blk off d W) := S
  have HC : Aside _ := hcmp
  have hcf : Aside _ := hcf0
  have O1 : Aside _ := O1
  have O2 : Aside _ := O2
  clear S hcmp hcf0
  have k1 : ((m : Int) - (a : Int) == 1) = false := by simp; omega
  have k2 : ((b : Int) - (m : Int) == 1) = true := by simp; omega
  have H1 : Aside _ := h1
  have H2 : Aside _ := h2
  clear h1 h2
  go_enter L.f72, Try.ntmps72
  go_wp2
  go_loopg [14, 15, 16] m (fun gh v14 v15 v16 wr => ∃ (i j : Nat), v14 = .int .i64 (i : Int) ∧ v15 = .int .i64 (j : Int) ∧ j - i ≤ gh ∧ Aside (SW enc w0 blk off d wr) ∧ Aside (SrD key d a m i j))
  case atStart => exact ⟨a, m, rfl, rfl, by omega, S0, SrD.start key d a m (by omega)⟩
  case round =>
    clear S0
    obtain ⟨i, j, rfl, rfl, hg, S1, X1⟩ := hrel
    have l1 := X1.out.l1; have l2 := X1.out.l2; have l3 := X1.out.l3
    by_cases hc : i < j
    · have hcb : decide ((i : Int) < (j : Int)) = true := decide_eq_true (by omega)
      have hcb' : decide (i < j) = true := decide_eq_true hc
      by_cases hl : key d[m]! < key d[(i + j) / 2]!
      · have X2 : Aside (SrD key d a m i ((i + j) / 2)) := X1.out.right O1.out (by omega) (by omega) hl
        clear X1
        have ea0 : ((m : Int)).toNat = m := by omega
        have pa0 : (0 : Int) ≤ (m : Int) := by omega
        have ba0 : (m : Int) < (N : Int) := by omega
        have ra0 : IntKind.i64.wrap ((m : Int)) = (m : Int) := by rw [IntKind.wrap_i64]; omega
        have ec0 : (((i : Int) + (j : Int)) / 2).toNat = (i + j) / 2 := by omega
        have pc0 : (0 : Int) ≤ ((i : Int) + (j : Int)) / 2 := by omega
        have bc0 : ((i : Int) + (j : Int)) / 2 < (N : Int) := by omega
        have rc0 : IntKind.i64.wrap (((i : Int) + (j : Int)) / 2) = ((i : Int) + (j : Int)) / 2 := by rw [IntKind.wrap_i64]; omega
        obtain ⟨x0, hx0⟩ : ∃ x, x = d[m]! := ⟨_, rfl⟩
        obtain ⟨y0, hy0⟩ : ∃ x, x = d[(i + j) / 2]! := ⟨_, rfl⟩
        have la0 := S1.out.cl R (by omega) (m) (by omega)
        have lb0 := S1.out.cl R (by omega) ((i + j) / 2) (by omega)
        rw [← hx0] at la0
        rw [← hy0] at lb0
        have hc0 := S1.out.cmp HC.out (by omega) x0 y0
        have hd0' : decide (cf x0 y0 < 0) = true := by rw [hx0, hy0]; exact decide_eq_true ((hcf.out _ _).2 hl)
        clear hx0 hy0
        have hv0 := of_decide_eq_true hd0'
        go_wp2_with fail
        go_quiet_grown (first | (go_at_fn g; refine Calls.grown_of (hc0 _ _)))
        have S2 : Aside (SW enc w0 blk off d (grow (wr.drewN nq) osq)) := S1.out.grown nq osq
        clear la0 lb0 hc0 S1
        generalize grow (wr.drewN nq) osq = w2 at S2 ⊢
        clear nq osq
        clear ea0 pa0 ba0 ra0 ec0 pc0 bc0 rc0
        go_wp2
        go_roundg (j - i - 1)
        case measure => omega
        case rel => exact ⟨i, (i + j) / 2, rfl, by first | rfl | (congr 1; omega), by omega, S2, X2⟩
      · have X2 : Aside (SrD key d a m ((i + j) / 2 + 1) j) := X1.out.left O1.out (by omega) (by omega) hl
        clear X1
        have ea0 : ((m : Int)).toNat = m := by omega
        have pa0 : (0 : Int) ≤ (m : Int) := by omega
        have ba0 : (m : Int) < (N : Int) := by omega
        have ra0 : IntKind.i64.wrap ((m : Int)) = (m : Int) := by rw [IntKind.wrap_i64]; omega
        have ec0 : (((i : Int) + (j : Int)) / 2).toNat = (i + j) / 2 := by omega
        have pc0 : (0 : Int) ≤ ((i : Int) + (j : Int)) / 2 := by omega
        have bc0 : ((i : Int) + (j : Int)) / 2 < (N : Int) := by omega
        have rc0 : IntKind.i64.wrap (((i : Int) + (j : Int)) / 2) = ((i : Int) + (j : Int)) / 2 := by rw [IntKind.wrap_i64]; omega
        obtain ⟨x0, hx0⟩ : ∃ x, x = d[m]! := ⟨_, rfl⟩
        obtain ⟨y0, hy0⟩ : ∃ x, x = d[(i + j) / 2]! := ⟨_, rfl⟩
        have la0 := S1.out.cl R (by omega) (m) (by omega)
        have lb0 := S1.out.cl R (by omega) ((i + j) / 2) (by omega)
        rw [← hx0] at la0
        rw [← hy0] at lb0
        have hc0 := S1.out.cmp HC.out (by omega) x0 y0
        have hd0' : decide (cf x0 y0 < 0) = false := by rw [hx0, hy0]; exact decide_eq_false (fun h => hl ((hcf.out _ _).1 h))
        clear hx0 hy0
        have hv0 := of_decide_eq_false hd0'
        go_wp2_with fail
        go_quiet_grown (first | (go_at_fn g; refine Calls.grown_of (hc0 _ _)))
        have S2 : Aside (SW enc w0 blk off d (grow (wr.drewN nq) osq)) := S1.out.grown nq osq
        clear la0 lb0 hc0 S1
        generalize grow (wr.drewN nq) osq = w2 at S2 ⊢
        clear nq osq
        clear ea0 pa0 ba0 ra0 ec0 pc0 bc0 rc0
        have rh : IntKind.i64.wrap (((i : Int) + (j : Int)) / 2 + 1) = ((i : Int) + (j : Int)) / 2 + 1 := by rw [IntKind.wrap_i64]; omega
        go_wp2
        go_roundg (j - i - 1)
        case measure => omega
        case rel => exact ⟨(i + j) / 2 + 1, j, by first | rfl | (congr 1; omega), rfl, by omega, S2, X2⟩
    · have hcb : decide ((i : Int) < (j : Int)) = false := decide_eq_false (by omega)
      have hcb' : decide (i < j) = false := decide_eq_false hc
      have X2 : Aside (SrD key d a m i i) := by have e : i = j := by omega
                                                subst e; exact X1.out
      clear X1
      obtain ⟨wo, rfl⟩ : ∃ wo : World, wo = wr := ⟨_, rfl⟩
      go_wp2
      go_loopg [17] m (fun gh v17 wr => ∃ (q : Nat) (dk : Array α), v17 = .int .i64 (q : Int) ∧ i ≤ q ∧ q ≤ m ∧ q ≤ gh ∧ dk.size = N ∧ Aside (SW enc w0 blk off dk wr) ∧ Aside (Rot q m (m + 1) d dk))
      case atStart => exact ⟨m, d, rfl, by omega, Nat.le_refl _, Nat.le_refl _, hd, S1, Rot.refl2 m (m + 1) d⟩
      case round =>
        clear S1
        obtain ⟨q, dk, rfl, haq, hqi, hg2, hdk, S1, Y1⟩ := hrel
        by_cases hq : i < q
        · obtain ⟨qp, rfl⟩ : ∃ qp, q = qp + 1 := ⟨q - 1, by omega⟩
          have hqz : decide ((i : Int) < (qp : Int) + 1) = true := decide_eq_true (by omega)
          have hwp : IntKind.i64.wrap (qp : Int) = (qp : Int) := by rw [IntKind.wrap_i64]; omega
          go_wp2_with fail
          obtain ⟨iN, hiN⟩ : ∃ nn, nn = qp + 1 := ⟨_, rfl⟩
          obtain ⟨jN, hjN⟩ : ∃ nn, nn = qp := ⟨_, rfl⟩
          have ea1 : ((qp : Int) + 1).toNat = iN := by omega
          have pa1 : (0 : Int) ≤ (qp : Int) + 1 := by omega
          have ba1 : (qp : Int) + 1 < (N : Int) := by omega
          have ra1 : IntKind.i64.wrap ((qp : Int) + 1) = (qp : Int) + 1 := by rw [IntKind.wrap_i64]; omega
          have ec1 : ((qp : Int)).toNat = jN := by omega
          have pc1 : (0 : Int) ≤ (qp : Int) := by omega
          have bc1 : (qp : Int) < (N : Int) := by omega
          have rc1 : IntKind.i64.wrap ((qp : Int)) = (qp : Int) := by rw [IntKind.wrap_i64]; omega
          obtain ⟨x1, hx1⟩ : ∃ x, x = dk[qp + 1]! := ⟨_, rfl⟩
          obtain ⟨y1, hy1⟩ : ∃ x, x = dk[qp]! := ⟨_, rfl⟩
          have S3 : Aside (SW enc w0 blk off (swp dk (qp + 1) (qp)) ((wr.setCell ⟨blk, off + iN, none⟩ (enc y1)).setCell ⟨blk, off + jN, none⟩ (enc x1)).drew) := by rw [hiN, hjN, hx1, hy1]; exact S1.out.swapped R (qp + 1) (qp) (by omega) (by omega)
          have ca1 := S1.out.c1 R (by omega) (qp + 1) (by omega)
          have cb1 := S1.out.c1 R (by omega) (qp) (by omega)
          have fa1 := S1.out.f1 R (by omega) (qp + 1) (by omega)
          have fb1 := S1.out.f1 R (by omega) (qp) (by omega)
          obtain ⟨u1, cc1⟩ := S1.out.c2 R (by omega) (qp + 1) (qp) (by omega) (by omega) (enc y1)
          rw [← hiN, ← hjN] at cc1
          rw [← hx1, ← hiN] at ca1
          rw [← hy1, ← hjN] at cb1
          rw [← hiN] at fa1
          rw [← hjN] at fb1
          clear S1 hx1 hy1 hiN hjN
          go_wp2_with fail
          go_big_region_o
          clear ca1 cb1 cc1 fa1 fb1
          generalize ((wr.setCell ⟨blk, off + iN, none⟩ (enc y1)).setCell ⟨blk, off + jN, none⟩ (enc x1)).drew = w3 at S3 ⊢
          clear ea1 pa1 ba1 ra1 ec1 pc1 bc1 rc1
          go_wp2
          go_roundg qp
          case measure => omega
          case rel => exact ⟨qp, swp dk (qp + 1) qp, by first | rfl | go_num | (congr 1; omega), by omega, by omega, Nat.le_refl _, by rw [swp_size]; exact hdk, S3, Y1.out.down (by omega) (by have := H2.out; omega)⟩
        · have hqz : decide ((i : Int) < (q : Int)) = false := decide_eq_false (by omega)
          have hqz' : decide (i < q) = false := decide_eq_false (by omega)
          have Y2 : Aside (Rot i m (m + 1) d dk) := by have e : q = i := by omega
                                                       subst e; exact Y1.out
          go_wp2
          refine bodyPost_ret (results_none rfl _ _ _) rfl ?_
          have hz := SrD.done X2.out O1.out (by have := H2.out; omega) Y2.out
          rw [← H2.out] at hz
          exact ⟨rfl, dk, S1.out, hz⟩
end Go.Proofs.Ytpldapjcojjicaa.B
