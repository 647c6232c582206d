/- Layer 2 (huff): slices' stable sort at coins: the merge, one element behind. Joined of texts: Layer 2 (huff): slices' stable sort at coins: the swap of two rows. Layer 2 (huff): slices' stable sort at coins: the rotation. Layer 2 (huff): slices' stable sort at coins: insertion. Layer 2 (huff): slices' stable sort at coins: the merge, one element ahead. -/
import Derived.Test.YtpldapjcojjicaaSt4
import Derived.Test.YtpldapjcojjicaaProg
import Derived.Shelf.SlSortCmp.KitK
import Derived.Sort.WalkB2
import Derived.Sort.WalkB12
import Derived.Deep.LoopGhost
namespace Go.Proofs.Ytpldapjcojjicaa.B
open Go.Proofs Go.Shelf Go.RowKit Go.Lib Go.Sort
set_option linter.unusedVariables false
set_option linter.unusedSimpArgs false
variable {α : Type} [Inhabited α]
/-- What a walk over the sort at elements of k cells leans on; P and k are open, so that an element's cells are not told one by one. -/
structure PK (P : Program) (k : Nat) : Prop where
  mixed : P.follows .mixedOrders = true
  t0 : P.underlying 0 = some (.tuple #[])
  a0 : ∀ w, (isAgg 0).run P w = .ok false w
  z0 : ∀ w, (Go.sizeOf 0).run P w = .ok 1 w
  v0 : ∀ w, (zeroValue 0).run P w = .ok (.tuple #[]) w
  t3 : P.underlying 3 = some (.int .i64)
  a3 : ∀ w, (isAgg 3).run P w = .ok false w
  z3 : ∀ w, (Go.sizeOf 3).run P w = .ok 1 w
  v3 : ∀ w, (zeroValue 3).run P w = .ok (.int .i64 0) w
  t4 : P.underlying 4 = some .bool
  a4 : ∀ w, (isAgg 4).run P w = .ok false w
  z4 : ∀ w, (Go.sizeOf 4).run P w = .ok 1 w
  v4 : ∀ w, (zeroValue 4).run P w = .ok (.bool false) w
  t73 : P.underlying 73 = some (.int .u64)
  a73 : ∀ w, (isAgg 73).run P w = .ok false w
  z73 : ∀ w, (Go.sizeOf 73).run P w = .ok 1 w
  v73 : ∀ w, (zeroValue 73).run P w = .ok (.int .u64 0) w
  t85 : P.underlying 85 = some (.slice 87)
  a85 : ∀ w, (isAgg 85).run P w = .ok false w
  z85 : ∀ w, (Go.sizeOf 85).run P w = .ok 1 w
  v85 : ∀ w, (zeroValue 85).run P w = .ok (.slice none 0 0) w
  t89 : P.underlying 89 = some (.func #[87, 87] #[3] false)
  a89 : ∀ w, (isAgg 89).run P w = .ok false w
  z89 : ∀ w, (Go.sizeOf 89).run P w = .ok 1 w
  v89 : ∀ w, (zeroValue 89).run P w = .ok (.nilFunc) w
  aE : ∀ w, (isAgg 87).run P w = .ok true w
  zE : ∀ w, (Go.sizeOf 87).run P w = .ok k w
  f54 : P.funcs[54]? = some Try.f54
  e54 : ∀ args w, (callFunc 54 args).run P w = .ok (.enter 54 args) w
  f65 : P.funcs[65]? = some Try.f65
  e65 : ∀ args w, (callFunc 65 args).run P w = .ok (.enter 65 args) w
  f69 : P.funcs[69]? = some Try.f69
  e69 : ∀ args w, (callFunc 69 args).run P w = .ok (.enter 69 args) w
  f70 : P.funcs[70]? = some Try.f70
  e70 : ∀ args w, (callFunc 70 args).run P w = .ok (.enter 70 args) w
  f73 : P.funcs[73]? = some Try.f73
  e73 : ∀ args w, (callFunc 73 args).run P w = .ok (.enter 73 args) w
  f75 : P.funcs[75]? = some Try.f75
  e75 : ∀ args w, (callFunc 75 args).run P w = .ok (.enter 75 args) w
theorem PK.try_ : PK Try.prog 3 where
  mixed := by kernel_rfl
  t0 := Try.underlying0
  a0 := Try.isAgg0
  z0 := Try.sizeOf0
  v0 := Try.zeroValue0
  t3 := Try.underlying3
  a3 := Try.isAgg3
  z3 := Try.sizeOf3
  v3 := Try.zeroValue3
  t4 := Try.underlying4
  a4 := Try.isAgg4
  z4 := Try.sizeOf4
  v4 := Try.zeroValue4
  t73 := Try.underlying73
  a73 := Try.isAgg73
  z73 := Try.sizeOf73
  v73 := Try.zeroValue73
  t85 := Try.underlying85
  a85 := Try.isAgg85
  z85 := Try.sizeOf85
  v85 := Try.zeroValue85
  t89 := Try.underlying89
  a89 := Try.isAgg89
  z89 := Try.sizeOf89
  v89 := Try.zeroValue89
  aE := Try.isAgg87
  zE := Try.sizeOf87
  f54 := Try.func54
  e54 := fun _ _ => by go_simp
  f65 := Try.func65
  e65 := fun _ _ => by go_simp
  f69 := Try.func69
  e69 := fun _ _ => by go_simp
  f70 := Try.func70
  e70 := fun _ _ => by go_simp
  f73 := Try.func73
  e73 := fun _ _ => by go_simp
  f75 := Try.func75
  e75 := fun _ _ => by go_simp

set_option maxHeartbeats 4000000 in
set_option maxRecDepth 1000000 in
theorem swapK (enc : α → List Value) (P : Program) (k : Nat) (L : PK P k) (w0 W : World) (blk off N cap a b n : Nat) (d0 d : Array α) (cmpv : Value) (R : RowK enc k w0 blk off d0) (hd0 : d0.size = N) (hd : d.size = N) (S : SWK enc k w0 blk off d W) (hab : a + n ≤ b) (hb : b + n ≤ N) (hN : N < 4611686018427387904) :
    Calls P 75 #[.slice (some ⟨blk, off, none⟩) N cap, .int .i64 a, .int .i64 b, .int .i64 n, cmpv] W fun e W' => e = .returned (.tuple #[]) ∧ ∃ d', SWK enc k w0 blk off d' W' ∧ SwR a b n d d' := by
  have mixed := L.mixed; have t0 := L.t0; have a0 := L.a0; have z0 := L.z0; have v0 := L.v0; have t3 := L.t3; have a3 := L.a3; have z3 := L.z3; have v3 := L.v3; have t4 := L.t4; have a4 := L.a4; have z4 := L.z4; have v4 := L.v4; have t73 := L.t73; have a73 := L.a73; have z73 := L.z73; have v73 := L.v73; have t85 := L.t85; have a85 := L.a85; have z85 := L.z85; have v85 := L.v85; have t89 := L.t89; have a89 := L.a89; have z89 := L.z89; have v89 := L.v89; have aE := L.aE; have zE := L.zE
  have S0 : Aside (SWK enc k w0 blk off d W) := S
  clear S
  go_enter L.f75, Try.ntmps75
  go_wp2
  go_loopg [10] n (fun gh v10 wr => ∃ (i : Nat) (dk : Array α), v10 = .int .i64 (i : Int) ∧ i ≤ n ∧ n - i ≤ gh ∧ dk.size = N ∧ Aside (SWK enc k w0 blk off dk wr) ∧ Aside (SwR a b i d dk))
  case atStart => exact ⟨0, d, rfl, Nat.zero_le _, by omega, hd, S0, SwR.zero a b d⟩
  case round =>
    clear S0
    obtain ⟨i, dk, rfl, hi, hg, hdk, S1, X1⟩ := hrel
    by_cases hc : i < n
    · have hcb : decide ((i : Int) < (n : Int)) = true := decide_eq_true (by omega)
      have hcb' : decide (i < n) = true := decide_eq_true hc
      go_wp2_with fail
      have ea : ((a : Int) + (i : Int)).toNat = a + i := by omega
      have pa : (0 : Int) ≤ (a : Int) + (i : Int) := by omega
      have ba : (a : Int) + (i : Int) < (N : Int) := by omega
      have ra : IntKind.i64.wrap ((a : Int) + (i : Int)) = (a : Int) + (i : Int) := by rw [IntKind.wrap_i64]; omega
      have ec : ((b : Int) + (i : Int)).toNat = b + i := by omega
      have pc : (0 : Int) ≤ (b : Int) + (i : Int) := by omega
      have bc : (b : Int) + (i : Int) < (N : Int) := by omega
      have rc : IntKind.i64.wrap ((b : Int) + (i : Int)) = (b : Int) + (i : Int) := by rw [IntKind.wrap_i64]; omega
      have S2 : Aside (SWK enc k w0 blk off (swp dk (a + i) (b + i)) ((wr.drew.setCells blk (off + (a + i) * k) (enc dk[b + i]!)).setCells blk (off + (b + i) * k) (enc dk[a + i]!))) := S1.out.swapped R (a + i) (b + i) (by omega) (by omega)
      have la := S1.out.ld1 R (by omega) P (a + i) (by omega)
      have lb := S1.out.ld1 R (by omega) P (b + i) (by omega)
      have sa := S1.out.st1 R (by omega) P (a + i) (by omega) dk[b + i]!
      have sb := S1.out.st2 R (by omega) P (a + i) (b + i) (by omega) (by omega) dk[b + i]! dk[a + i]!
      have na : (enc dk[a + i]!).length = k := R.hk _
      have nb : (enc dk[b + i]!).length = k := R.hk _
      generalize enc dk[a + i]! = cI at S2 la sb na
      generalize enc dk[b + i]! = cJ at S2 lb sa sb nb
      clear S1
      go_wp2_with fail
      go_big_region_o
      clear la lb sa sb
      generalize (wr.drew.setCells blk (off + (a + i) * k) cJ).setCells blk (off + (b + i) * k) cI = w2 at S2 ⊢
      go_wp2
      go_roundg (n - (i + 1))
      case measure => omega
      case rel => exact ⟨i + 1, swp dk (a + i) (b + i), by go_num, by omega, Nat.le_refl _, by rw [swp_size]; exact hdk, S2, X1.out.step (by omega) (by omega)⟩
    · have hcb : decide ((i : Int) < (n : Int)) = false := decide_eq_false (by omega)
      have hcb' : decide (i < n) = false := decide_eq_false hc
      obtain rfl : i = n := by omega
      go_wp2
      go_end0
      exact ⟨rfl, dk, S1.out, X1.out⟩
/-- .. at whatever numbers that are these. -/
theorem swapK' (enc : α → List Value) (P : Program) (k : Nat) (L : PK P k) (w0 W : World) (blk off N cap a b n : Nat) (d0 d : Array α) (cmpv : Value) (R : RowK enc k w0 blk off d0) (hd0 : d0.size = N) (hd : d.size = N) (S : SWK enc k w0 blk off d W) (hab : a + n ≤ b) (hb : b + n ≤ N) (hN : N < 4611686018427387904)
    (A B M : Int) (hA : A = (a : Int)) (hB : B = (b : Int)) (hM : M = (n : Int)) :
    Calls P 75 #[.slice (some ⟨blk, off, none⟩) N cap, .int .i64 A, .int .i64 B, .int .i64 M, cmpv] W fun e W' => e = .returned (.tuple #[]) ∧ ∃ d', SWK enc k w0 blk off d' W' ∧ SwR a b n d d' := by
  subst hA hB hM
  exact swapK enc P k L w0 W blk off N cap a b n d0 d cmpv R hd0 hd S hab hb hN
end Go.Proofs.Ytpldapjcojjicaa.B

namespace Go.Proofs.Ytpldapjcojjicaa.B
open Go.Proofs Go.Shelf Go.RowKit Go.Lib Go.Sort
set_option linter.unusedVariables false
set_option linter.unusedSimpArgs false
variable {α : Type} [Inhabited α]

set_option maxHeartbeats 4000000 in
set_option maxRecDepth 1000000 in
theorem rotK (enc : α → List Value) (P : Program) (k : Nat) (L : PK P k) (w0 W : World) (blk off N cap a m b : Nat) (d0 d : Array α) (cmpv : Value) (R : RowK enc k w0 blk off d0) (hd0 : d0.size = N) (hd : d.size = N) (S : SWK enc k w0 blk off d W) (ham : a < m) (hmb : m < b) (hb : b ≤ N) (hN : N < 4611686018427387904) :
    Calls P 73 #[.slice (some ⟨blk, off, none⟩) N cap, .int .i64 a, .int .i64 m, .int .i64 b, cmpv] W fun e W' => e = .returned (.tuple #[]) ∧ ∃ d', SWK enc k w0 blk off d' W' ∧ Rot a m b d d' := by
  have mixed := L.mixed; have t0 := L.t0; have a0 := L.a0; have z0 := L.z0; have v0 := L.v0; have t3 := L.t3; have a3 := L.a3; have z3 := L.z3; have v3 := L.v3; have t4 := L.t4; have a4 := L.a4; have z4 := L.z4; have v4 := L.v4; have t73 := L.t73; have a73 := L.a73; have z73 := L.z73; have v73 := L.v73; have t85 := L.t85; have a85 := L.a85; have z85 := L.z85; have v85 := L.v85; have t89 := L.t89; have a89 := L.a89; have z89 := L.z89; have v89 := L.v89; have aE := L.aE; have zE := L.zE; have e75 := L.e75
  have S0 : Aside (SWK enc k w0 blk off d W) := S
  clear S
  go_enter L.f73, Try.ntmps73
  go_wp2
  go_loopg [10, 11] b (fun gh v10 v11 wr => ∃ (i j : Nat) (dk : Array α), v10 = .int .i64 (i : Int) ∧ v11 = .int .i64 (j : Int) ∧ 0 < i ∧ 0 < j ∧ i ≤ m ∧ m + j ≤ b ∧ i + j ≤ gh ∧ dk.size = N ∧ Aside (SWK enc k w0 blk off dk wr) ∧ Aside (RotC a m b i j d dk))
  case atStart => exact ⟨m - a, b - m, d, by congr 1; omega, by congr 1; omega, by omega, by omega, by omega, by omega, by omega, hd, S0, RotC.start a m b d (by omega) (by omega)⟩
  case round =>
    clear S0
    obtain ⟨i, j, dk, rfl, rfl, hi, hj, him, hjb, hg, hdk, S1, X1⟩ := hrel
    by_cases hc : i = j
    · subst hc
      have hcb : ((i : Int) != (i : Int)) = false := by simp
      go_wp2_with (go_at_call 75; refine (swapK' enc P k L w0 _ blk off N cap (m - i) m i d0 dk cmpv R hd0 hdk S1.out (by omega) (by omega) hN _ _ _ (by omega) rfl rfl).mono ?_; rintro e w1 ⟨rfl, d1, S2, X2⟩; have S2 : Aside (SWK enc k w0 blk off d1 w1) := S2; have X2 : Aside (SwR (m - i) m i dk d1) := X2)
      go_end0
      exact ⟨rfl, d1, S2.out, X1.out.eq him X2.out⟩
    · have hcb : ((i : Int) != (j : Int)) = true := by simp; omega
      by_cases hlt : j < i
      · have hlt' : decide ((j : Int) < (i : Int)) = true := decide_eq_true (by omega)
        have hlt'' : decide (j < i) = true := decide_eq_true hlt
        go_wp2_with (go_at_call 75; refine (swapK' enc P k L w0 _ blk off N cap (m - i) m j d0 dk cmpv R hd0 hdk S1.out (by omega) (by omega) hN _ _ _ (by omega) rfl rfl).mono ?_; rintro e w1 ⟨rfl, d1, S2, X2⟩; have S2 : Aside (SWK enc k w0 blk off d1 w1) := S2; have X2 : Aside (SwR (m - i) m j dk d1) := X2)
        go_roundg (i + j - 1)
        case measure => omega
        case rel => exact ⟨i - j, j, d1, by congr 1; omega, rfl, by omega, by omega, by omega, by omega, by omega, by rw [X2.out.size]; exact hdk, S2, X1.out.gt hlt him X2.out⟩
      · have hlt' : decide ((j : Int) < (i : Int)) = false := decide_eq_false (by omega)
        have hlt'' : decide (j < i) = false := decide_eq_false hlt
        go_wp2_with (go_at_call 75; refine (swapK' enc P k L w0 _ blk off N cap (m - i) (m + j - i) i d0 dk cmpv R hd0 hdk S1.out (by omega) (by omega) hN _ _ _ (by omega) (by omega) rfl).mono ?_; rintro e w1 ⟨rfl, d1, S2, X2⟩; have S2 : Aside (SWK enc k w0 blk off d1 w1) := S2; have X2 : Aside (SwR (m - i) (m + j - i) i dk d1) := X2)
        go_roundg (i + j - 1)
        case measure => omega
        case rel => exact ⟨i, j - i, d1, rfl, by congr 1; omega, by omega, by omega, by omega, by omega, by omega, by rw [X2.out.size]; exact hdk, S2, X1.out.lt (by omega) him X2.out⟩
theorem rotK' (enc : α → List Value) (P : Program) (k : Nat) (L : PK P k) (w0 W : World) (blk off N cap a m b : Nat) (d0 d : Array α) (cmpv : Value) (R : RowK enc k w0 blk off d0) (hd0 : d0.size = N) (hd : d.size = N) (S : SWK enc k w0 blk off d W) (ham : a < m) (hmb : m < b) (hb : b ≤ N) (hN : N < 4611686018427387904)
    (A M B : Int) (hA : A = (a : Int)) (hM : M = (m : Int)) (hB : B = (b : Int)) :
    Calls P 73 #[.slice (some ⟨blk, off, none⟩) N cap, .int .i64 A, .int .i64 M, .int .i64 B, cmpv] W fun e W' => e = .returned (.tuple #[]) ∧ ∃ d', SWK enc k w0 blk off d' W' ∧ Rot a m b d d' := by
  subst hA hM hB
  exact rotK enc P k L w0 W blk off N cap a m b d0 d cmpv R hd0 hd S ham hmb hb hN
end Go.Proofs.Ytpldapjcojjicaa.B

namespace Go.Proofs.Ytpldapjcojjicaa.B
open Go.Proofs Go.Shelf Go.RowKit Go.Lib Go.Sort
set_option linter.unusedVariables false
set_option linter.unusedSimpArgs false
variable {α : Type} [Inhabited α]

set_option maxHeartbeats 4000000 in
set_option maxRecDepth 1000000 in
theorem insK (enc : α → List Value) (P : Program) (k : Nat) (L : PK P k) (cf : α → α → Int) (key : α → Int) (hcf0 : ∀ x y, cf x y < 0 ↔ key x < key y) (g : Nat) (cb : Array Value) (eg : ∀ args w, (callFunc g args).run P w = .ok (.enter g args) w) (w0 W : World) (blk off N cap a b : Nat) (d0 d : Array α) (R : RowK enc k w0 blk off d0) (hcmp : CmpLays P g cb enc k cf blk off N w0) (hd0 : d0.size = N) (hd : d.size = N) (S : SWK enc k w0 blk off d W) (hab : a ≤ b) (hb : b ≤ N) (hN : N < 4611686018427387904) :
    Calls P 69 #[.slice (some ⟨blk, off, none⟩) N cap, .int .i64 a, .int .i64 b, .func (.func g) #[] cb] W fun e W' => e = .returned (.tuple #[]) ∧ ∃ d', SWK enc k w0 blk off d' W' ∧ Stp key a b d d' ∧ SrtOn key d' a b := by
  have mixed := L.mixed; have t0 := L.t0; have a0 := L.a0; have z0 := L.z0; have v0 := L.v0; have t3 := L.t3; have a3 := L.a3; have z3 := L.z3; have v3 := L.v3; have t4 := L.t4; have a4 := L.a4; have z4 := L.z4; have v4 := L.v4; have t73 := L.t73; have a73 := L.a73; have z73 := L.z73; have v73 := L.v73; have t85 := L.t85; have a85 := L.a85; have z85 := L.z85; have v85 := L.v85; have t89 := L.t89; have a89 := L.a89; have z89 := L.z89; have v89 := L.v89; have aE := L.aE; have zE := L.zE
  have S0 : Aside (SWK enc k w0 blk off d W) := S
  have HC : Aside _ := hcmp
  have hcf : Aside _ := hcf0
  clear S hcmp hcf0
  go_enter L.f69, Try.ntmps69
  go_wp2
  go_loopg [8] (b - a) (fun gh v8 wr => ∃ (i : Nat) (dk : Array α), v8 = .int .i64 (i : Int) ∧ a < i ∧ i ≤ b + 1 ∧ b + 1 - i ≤ gh + 1 ∧ (i ≤ b ∨ a = b) ∧ dk.size = N ∧ Aside (SWK enc k w0 blk off dk wr) ∧ Aside (Stp key a b d dk) ∧ Aside (SrtOn key dk a (min i b)))
  case atStart => exact ⟨a + 1, d, by go_num, by omega, by omega, by omega, by omega, hd, S0, Stp.refl d, SrtOn.one (by omega)⟩
  case round =>
    clear S0
    obtain ⟨i, dk, rfl, hai, hib, hg1, hie, hdk, S1, X1, O1⟩ := hrel
    by_cases hlt : i < b
    · have hltz : decide ((i : Int) < (b : Int)) = true := decide_eq_true (by omega)
      have hltz' : decide (i < b) = true := decide_eq_true hlt
      obtain ⟨wo, rfl⟩ : ∃ wo : World, wo = wr := ⟨_, rfl⟩
      go_wp2
      go_loopg [9] i (fun gh v9 wr => ∃ (j : Nat) (dj : Array α), v9 = .int .i64 (j : Int) ∧ a ≤ j ∧ j ≤ i ∧ j ≤ gh ∧ dj.size = N ∧ Aside (SWK enc k w0 blk off dj wr) ∧ Aside (Stp key a b d dj) ∧ Aside (InsR key a j i dj))
      case atStart => exact ⟨i, dk, rfl, by omega, Nat.le_refl _, Nat.le_refl _, hdk, S1, X1, InsR.start (O1.out.mono (Nat.le_refl _) (by omega))⟩
      case round =>
        clear S1 X1 O1 hdk
        obtain ⟨j, dj, rfl, haj, hji, hg2, hdj, S1, X1, I1⟩ := hrel
        by_cases hja : a < j
        · clear hltz hltz'
          by_cases hl : key dj[j]! < key dj[j - 1]!
          · obtain ⟨jp, rfl⟩ : ∃ jp, j = jp + 1 := ⟨j - 1, by omega⟩
            have hl : key dj[jp + 1]! < key dj[jp]! := hl
            have hjaz : decide ((a : Int) < (jp : Int) + 1) = true := decide_eq_true (by omega)
            have hwp : IntKind.i64.wrap (jp : Int) = (jp : Int) := by rw [IntKind.wrap_i64]; omega
            have ea0 : ((jp : Int) + 1).toNat = jp + 1 := by omega
            have pa0 : (0 : Int) ≤ (jp : Int) + 1 := by omega
            have ba0 : (jp : Int) + 1 < (N : Int) := by omega
            have ra0 : IntKind.i64.wrap ((jp : Int) + 1) = (jp : Int) + 1 := by rw [IntKind.wrap_i64]; omega
            have ec0 : ((jp : Int)).toNat = jp := by omega
            have pc0 : (0 : Int) ≤ (jp : Int) := by omega
            have bc0 : (jp : Int) < (N : Int) := by omega
            have rc0 : IntKind.i64.wrap ((jp : Int)) = (jp : Int) := by rw [IntKind.wrap_i64]; omega
            obtain ⟨x0, hx0⟩ : ∃ x, x = dj[jp + 1]! := ⟨_, rfl⟩
            obtain ⟨y0, hy0⟩ : ∃ x, x = dj[jp]! := ⟨_, rfl⟩
            have la0 := S1.out.ld R (by omega) P (jp + 1) (by omega)
            have lb0 := S1.out.ld R (by omega) P (jp) (by omega)
            rw [← hx0] at la0
            rw [← hy0] at lb0
            have hc0 := S1.out.cmp HC.out (by omega) x0 y0
            have hd0' : decide (cf x0 y0 < 0) = true := by rw [hx0, hy0]; exact decide_eq_true ((hcf.out _ _).2 hl)
            clear hx0 hy0
            have hv0 := of_decide_eq_true hd0'
            go_wp2_with fail
            go_quiet_grown (first | (go_at_fn g; refine Calls.grown_of (hc0 _ _)))
            have S2 : Aside (SWK enc k w0 blk off dj (grow (wr.drewN nq) osq)) := S1.out.grown nq osq
            clear la0 lb0 hc0 S1
            generalize grow (wr.drewN nq) osq = w2 at S2 ⊢
            clear nq osq
            clear ea0 pa0 ba0 ra0 ec0 pc0 bc0 rc0
            go_wp2_with fail
            have ea1 : ((jp : Int) + 1).toNat = jp + 1 := by omega
            have pa1 : (0 : Int) ≤ (jp : Int) + 1 := by omega
            have ba1 : (jp : Int) + 1 < (N : Int) := by omega
            have ra1 : IntKind.i64.wrap ((jp : Int) + 1) = (jp : Int) + 1 := by rw [IntKind.wrap_i64]; omega
            have ec1 : ((jp : Int)).toNat = jp := by omega
            have pc1 : (0 : Int) ≤ (jp : Int) := by omega
            have bc1 : (jp : Int) < (N : Int) := by omega
            have rc1 : IntKind.i64.wrap ((jp : Int)) = (jp : Int) := by rw [IntKind.wrap_i64]; omega
            have S3 : Aside (SWK enc k w0 blk off (swp dj (jp + 1) (jp)) ((w2.drew.setCells blk (off + (jp + 1) * k) (enc dj[jp]!)).setCells blk (off + (jp) * k) (enc dj[jp + 1]!))) := S2.out.swapped R (jp + 1) (jp) (by omega) (by omega)
            have la1 := S2.out.ld1 R (by omega) P (jp + 1) (by omega)
            have lb1 := S2.out.ld1 R (by omega) P (jp) (by omega)
            have sa1 := S2.out.st1 R (by omega) P (jp + 1) (by omega) dj[jp]!
            have sb1 := S2.out.st2 R (by omega) P (jp + 1) (jp) (by omega) (by omega) dj[jp]! dj[jp + 1]!
            have na1 : (enc dj[jp + 1]!).length = k := R.hk _
            have nb1 : (enc dj[jp]!).length = k := R.hk _
            generalize enc dj[jp + 1]! = cI at S3 la1 sb1 na1
            generalize enc dj[jp]! = cJ at S3 lb1 sa1 sb1 nb1
            clear S2
            go_wp2_with fail
            go_big_region_o
            clear la1 lb1 sa1 sb1
            generalize (w2.drew.setCells blk (off + (jp + 1) * k) cJ).setCells blk (off + (jp) * k) cI = w3 at S3 ⊢
            clear ea1 pa1 ba1 ra1 ec1 pc1 bc1 rc1
            go_wp2
            go_roundg jp
            case measure => omega
            case rel => exact ⟨jp, swp dj (jp + 1) jp, by first | rfl | go_num | (congr 1; omega), by omega, by omega, Nat.le_refl _, by rw [swp_size]; exact hdj, S3, X1.out.trans (stp_swp dj jp (by omega) (by omega) (by omega) (by omega)), I1.out.step hl (by omega) (by omega) (by omega)⟩
          · obtain ⟨jp, rfl⟩ : ∃ jp, j = jp + 1 := ⟨j - 1, by omega⟩
            have hl : ¬ key dj[jp + 1]! < key dj[jp]! := hl
            have O2 : Aside (SrtOn key dj a (i + 1)) := I1.out.stop (Or.inr hl)
            have hjaz : decide ((a : Int) < (jp : Int) + 1) = true := decide_eq_true (by omega)
            have hwp : IntKind.i64.wrap (jp : Int) = (jp : Int) := by rw [IntKind.wrap_i64]; omega
            have ea0 : ((jp : Int) + 1).toNat = jp + 1 := by omega
            have pa0 : (0 : Int) ≤ (jp : Int) + 1 := by omega
            have ba0 : (jp : Int) + 1 < (N : Int) := by omega
            have ra0 : IntKind.i64.wrap ((jp : Int) + 1) = (jp : Int) + 1 := by rw [IntKind.wrap_i64]; omega
            have ec0 : ((jp : Int)).toNat = jp := by omega
            have pc0 : (0 : Int) ≤ (jp : Int) := by omega
            have bc0 : (jp : Int) < (N : Int) := by omega
            have rc0 : IntKind.i64.wrap ((jp : Int)) = (jp : Int) := by rw [IntKind.wrap_i64]; omega
            obtain ⟨x0, hx0⟩ : ∃ x, x = dj[jp + 1]! := ⟨_, rfl⟩
            obtain ⟨y0, hy0⟩ : ∃ x, x = dj[jp]! := ⟨_, rfl⟩
            have la0 := S1.out.ld R (by omega) P (jp + 1) (by omega)
            have lb0 := S1.out.ld R (by omega) P (jp) (by omega)
            rw [← hx0] at la0
            rw [← hy0] at lb0
            have hc0 := S1.out.cmp HC.out (by omega) x0 y0
            have hd0' : decide (cf x0 y0 < 0) = false := by rw [hx0, hy0]; exact decide_eq_false (fun h => hl ((hcf.out _ _).1 h))
            clear hx0 hy0
            have hv0 := of_decide_eq_false hd0'
            go_wp2_with fail
            go_quiet_grown (first | (go_at_fn g; refine Calls.grown_of (hc0 _ _)))
            have S2 : Aside (SWK enc k w0 blk off dj (grow (wr.drewN nq) osq)) := S1.out.grown nq osq
            clear la0 lb0 hc0 S1
            generalize grow (wr.drewN nq) osq = w2 at S2 ⊢
            clear nq osq
            clear ea0 pa0 ba0 ra0 ec0 pc0 bc0 rc0
            go_wp2
            go_roundg (b - (i + 1))
            case measure => omega
            case rel => exact ⟨i + 1, dj, by go_num, by omega, by omega, by omega, by omega, hdj, S2, X1, O2.out.mono (Nat.le_refl _) (by omega)⟩
        · have hjaz : decide ((a : Int) < (j : Int)) = false := decide_eq_false (by omega)
          have hjaz' : decide (a < j) = false := decide_eq_false hja
          have S2 : Aside (SWK enc k w0 blk off dj wr.drew) := S1.out.drew
          clear S1
          go_wp2_with fail
          go_big_region_o
          all_goals go_wp2
          go_roundg (b - (i + 1))
          case measure => omega
          case rel => exact ⟨i + 1, dj, by go_num, by omega, by omega, by omega, by omega, hdj, S2, X1, (I1.out.stop (Or.inl (by omega))).mono (Nat.le_refl _) (by omega)⟩
    · have hltz : decide ((i : Int) < (b : Int)) = false := decide_eq_false (by omega)
      have hltz' : decide (i < b) = false := decide_eq_false hlt
      go_wp2
      go_end0
      exact ⟨rfl, dk, S1.out, X1.out, O1.out.mono (Nat.le_refl _) (by omega)⟩
theorem insK' (enc : α → List Value) (P : Program) (k : Nat) (L : PK P k) (cf : α → α → Int) (key : α → Int) (hcf0 : ∀ x y, cf x y < 0 ↔ key x < key y) (g : Nat) (cb : Array Value) (eg : ∀ args w, (callFunc g args).run P w = .ok (.enter g args) w) (w0 W : World) (blk off N cap a b : Nat) (d0 d : Array α) (R : RowK enc k w0 blk off d0) (hcmp : CmpLays P g cb enc k cf blk off N w0) (hd0 : d0.size = N) (hd : d.size = N) (S : SWK enc k w0 blk off d W) (hab : a ≤ b) (hb : b ≤ N) (hN : N < 4611686018427387904) (A B : Int) (hA : A = (a : Int)) (hB : B = (b : Int)) :
    Calls P 69 #[.slice (some ⟨blk, off, none⟩) N cap, .int .i64 A, .int .i64 B, .func (.func g) #[] cb] W fun e W' => e = .returned (.tuple #[]) ∧ ∃ d', SWK enc k w0 blk off d' W' ∧ Stp key a b d d' ∧ SrtOn key d' a b := by
  subst hA hB
  exact insK enc P k L cf key hcf0 g cb eg w0 W blk off N cap a b d0 d R hcmp hd0 hd S hab hb hN
end Go.Proofs.Ytpldapjcojjicaa.B

namespace Go.Proofs.Ytpldapjcojjicaa.B
open Go.Proofs Go.Shelf Go.RowKit Go.Lib Go.Sort
set_option linter.unusedVariables false
set_option linter.unusedSimpArgs false
variable {α : Type} [Inhabited α]

set_option maxHeartbeats 4000000 in
set_option maxRecDepth 1000000 in
theorem symUpK (enc : α → List Value) (P : Program) (k : Nat) (L : PK P k) (cf : α → α → Int) (key : α → Int) (hcf0 : ∀ x y, cf x y < 0 ↔ key x < key y) (g : Nat) (cb : Array Value) (eg : ∀ args w, (callFunc g args).run P w = .ok (.enter g args) w) (w0 W : World) (blk off N cap a m b : Nat) (d0 d : Array α) (R : RowK enc k w0 blk off d0) (hcmp : CmpLays P g cb enc k cf blk off N w0) (hd0 : d0.size = N) (hd : d.size = N) (S : SWK enc k w0 blk off d W) (ham : a < m) (hmb : m < b) (hb : b ≤ N) (hN : N < 4611686018427387904) (O1 : SrtOn key d a m) (O2 : SrtOn key d m b) (h1 : m = a + 1) :
    Calls P 70 #[.slice (some ⟨blk, off, none⟩) N cap, .int .i64 a, .int .i64 m, .int .i64 b, .func (.func g) #[] cb] W fun e W' => e = .returned (.tuple #[]) ∧ ∃ d', SWK enc k w0 blk off d' W' ∧ Stp key a b d d' ∧ SrtOn key d' a b := by
  have mixed := L.mixed; have t0 := L.t0; have a0 := L.a0; have z0 := L.z0; have v0 := L.v0; have t3 := L.t3; have a3 := L.a3; have z3 := L.z3; have v3 := L.v3; have t4 := L.t4; have a4 := L.a4; have z4 := L.z4; have v4 := L.v4; have t73 := L.t73; have a73 := L.a73; have z73 := L.z73; have v73 := L.v73; have t85 := L.t85; have a85 := L.a85; have z85 := L.z85; have v85 := L.v85; have t89 := L.t89; have a89 := L.a89; have z89 := L.z89; have v89 := L.v89; have aE := L.aE; have zE := L.zE
  have S0 : Aside (SWK enc k w0 blk off d W) := S
  have HC : Aside _ := hcmp
  have hcf : Aside _ := hcf0
  have O1 : Aside _ := O1
  have O2 : Aside _ := O2
  clear S hcmp hcf0
  have k1 : ((m : Int) - (a : Int) == 1) = true := by simp; omega
  have H1 : Aside _ := h1
  clear h1
  go_enter L.f70, Try.ntmps70
  go_wp2
  go_loopg [10, 11, 12] b (fun gh v10 v11 v12 wr => ∃ (i j : Nat), v10 = .int .i64 (i : Int) ∧ v11 = .int .i64 (j : Int) ∧ j - i ≤ gh ∧ Aside (SWK enc k w0 blk off d wr) ∧ Aside (SrU key d a m b i j))
  case atStart => exact ⟨m, b, rfl, rfl, by omega, S0, SrU.start key d a m b (by omega)⟩
  case round =>
    clear S0
    obtain ⟨i, j, rfl, rfl, hg, S1, X1⟩ := hrel
    have l1 := X1.out.l1; have l2 := X1.out.l2; have l3 := X1.out.l3
    by_cases hc : i < j
    · have hcb : decide ((i : Int) < (j : Int)) = true := decide_eq_true (by omega)
      have hcb' : decide (i < j) = true := decide_eq_true hc
      by_cases hl : key d[(i + j) / 2]! < key d[a]!
      · have X2 : Aside (SrU key d a m b ((i + j) / 2 + 1) j) := X1.out.left O2.out (by omega) (by omega) hl
        clear X1
        have ea0 : (((i : Int) + (j : Int)) / 2).toNat = (i + j) / 2 := by omega
        have pa0 : (0 : Int) ≤ ((i : Int) + (j : Int)) / 2 := by omega
        have ba0 : ((i : Int) + (j : Int)) / 2 < (N : Int) := by omega
        have ra0 : IntKind.i64.wrap (((i : Int) + (j : Int)) / 2) = ((i : Int) + (j : Int)) / 2 := by rw [IntKind.wrap_i64]; omega
        have ec0 : ((a : Int)).toNat = a := by omega
        have pc0 : (0 : Int) ≤ (a : Int) := by omega
        have bc0 : (a : Int) < (N : Int) := by omega
        have rc0 : IntKind.i64.wrap ((a : Int)) = (a : Int) := by rw [IntKind.wrap_i64]; omega
        obtain ⟨x0, hx0⟩ : ∃ x, x = d[(i + j) / 2]! := ⟨_, rfl⟩
        obtain ⟨y0, hy0⟩ : ∃ x, x = d[a]! := ⟨_, rfl⟩
        have la0 := S1.out.ld R (by omega) P ((i + j) / 2) (by omega)
        have lb0 := S1.out.ld R (by omega) P (a) (by omega)
        rw [← hx0] at la0
        rw [← hy0] at lb0
        have hc0 := S1.out.cmp HC.out (by omega) x0 y0
        have hd0' : decide (cf x0 y0 < 0) = true := by rw [hx0, hy0]; exact decide_eq_true ((hcf.out _ _).2 hl)
        clear hx0 hy0
        have hv0 := of_decide_eq_true hd0'
        go_wp2_with fail
        go_quiet_grown (first | (go_at_fn g; refine Calls.grown_of (hc0 _ _)))
        have S2 : Aside (SWK enc k w0 blk off d (grow (wr.drewN nq) osq)) := S1.out.grown nq osq
        clear la0 lb0 hc0 S1
        generalize grow (wr.drewN nq) osq = w2 at S2 ⊢
        clear nq osq
        clear ea0 pa0 ba0 ra0 ec0 pc0 bc0 rc0
        have rh : IntKind.i64.wrap (((i : Int) + (j : Int)) / 2 + 1) = ((i : Int) + (j : Int)) / 2 + 1 := by rw [IntKind.wrap_i64]; omega
        go_wp2
        go_roundg (j - i - 1)
        case measure => omega
        case rel => exact ⟨(i + j) / 2 + 1, j, by first | rfl | (congr 1; omega), rfl, by omega, S2, X2⟩
      · have X2 : Aside (SrU key d a m b i ((i + j) / 2)) := X1.out.right O2.out (by omega) (by omega) hl
        clear X1
        have ea0 : (((i : Int) + (j : Int)) / 2).toNat = (i + j) / 2 := by omega
        have pa0 : (0 : Int) ≤ ((i : Int) + (j : Int)) / 2 := by omega
        have ba0 : ((i : Int) + (j : Int)) / 2 < (N : Int) := by omega
        have ra0 : IntKind.i64.wrap (((i : Int) + (j : Int)) / 2) = ((i : Int) + (j : Int)) / 2 := by rw [IntKind.wrap_i64]; omega
        have ec0 : ((a : Int)).toNat = a := by omega
        have pc0 : (0 : Int) ≤ (a : Int) := by omega
        have bc0 : (a : Int) < (N : Int) := by omega
        have rc0 : IntKind.i64.wrap ((a : Int)) = (a : Int) := by rw [IntKind.wrap_i64]; omega
        obtain ⟨x0, hx0⟩ : ∃ x, x = d[(i + j) / 2]! := ⟨_, rfl⟩
        obtain ⟨y0, hy0⟩ : ∃ x, x = d[a]! := ⟨_, rfl⟩
        have la0 := S1.out.ld R (by omega) P ((i + j) / 2) (by omega)
        have lb0 := S1.out.ld R (by omega) P (a) (by omega)
        rw [← hx0] at la0
        rw [← hy0] at lb0
        have hc0 := S1.out.cmp HC.out (by omega) x0 y0
        have hd0' : decide (cf x0 y0 < 0) = false := by rw [hx0, hy0]; exact decide_eq_false (fun h => hl ((hcf.out _ _).1 h))
        clear hx0 hy0
        have hv0 := of_decide_eq_false hd0'
        go_wp2_with fail
        go_quiet_grown (first | (go_at_fn g; refine Calls.grown_of (hc0 _ _)))
        have S2 : Aside (SWK enc k w0 blk off d (grow (wr.drewN nq) osq)) := S1.out.grown nq osq
        clear la0 lb0 hc0 S1
        generalize grow (wr.drewN nq) osq = w2 at S2 ⊢
        clear nq osq
        clear ea0 pa0 ba0 ra0 ec0 pc0 bc0 rc0
        go_wp2
        go_roundg (j - i - 1)
        case measure => omega
        case rel => exact ⟨i, (i + j) / 2, rfl, by first | rfl | (congr 1; omega), by omega, S2, X2⟩
    · have hcb : decide ((i : Int) < (j : Int)) = false := decide_eq_false (by omega)
      have hcb' : decide (i < j) = false := decide_eq_false hc
      have X2 : Aside (SrU key d a m b i i) := by have e : i = j := by omega
                                                  subst e; exact X1.out
      clear X1
      obtain ⟨wo, rfl⟩ : ∃ wo : World, wo = wr := ⟨_, rfl⟩
      go_wp2
      go_loopg [13] i (fun gh v13 wr => ∃ (q : Nat) (dk : Array α), v13 = .int .i64 (q : Int) ∧ a ≤ q ∧ q < i ∧ i - q ≤ gh ∧ dk.size = N ∧ Aside (SWK enc k w0 blk off dk wr) ∧ Aside (Rot a (a + 1) (q + 1) d dk))
      case atStart => exact ⟨a, d, rfl, Nat.le_refl _, by have := H1.out; omega, by omega, hd, S1, Rot.refl1 a (a + 1) d⟩
      case round =>
        clear S1
        obtain ⟨q, dk, rfl, haq, hqi, hg2, hdk, S1, Y1⟩ := hrel
        by_cases hq : q + 1 < i
        · have hqz : decide ((q : Int) < (i : Int) - 1) = true := decide_eq_true (by omega)
          have hqz' : decide ((q : Int) + 1 < (i : Int)) = true := decide_eq_true (by omega)
          go_wp2_with fail
          have ea1 : ((q : Int)).toNat = q := by omega
          have pa1 : (0 : Int) ≤ (q : Int) := by omega
          have ba1 : (q : Int) < (N : Int) := by omega
          have ra1 : IntKind.i64.wrap ((q : Int)) = (q : Int) := by rw [IntKind.wrap_i64]; omega
          have ec1 : ((q : Int) + 1).toNat = q + 1 := by omega
          have pc1 : (0 : Int) ≤ (q : Int) + 1 := by omega
          have bc1 : (q : Int) + 1 < (N : Int) := by omega
          have rc1 : IntKind.i64.wrap ((q : Int) + 1) = (q : Int) + 1 := by rw [IntKind.wrap_i64]; omega
          have S3 : Aside (SWK enc k w0 blk off (swp dk (q) (q + 1)) ((wr.drew.setCells blk (off + (q) * k) (enc dk[q + 1]!)).setCells blk (off + (q + 1) * k) (enc dk[q]!))) := S1.out.swapped R (q) (q + 1) (by omega) (by omega)
          have la1 := S1.out.ld1 R (by omega) P (q) (by omega)
          have lb1 := S1.out.ld1 R (by omega) P (q + 1) (by omega)
          have sa1 := S1.out.st1 R (by omega) P (q) (by omega) dk[q + 1]!
          have sb1 := S1.out.st2 R (by omega) P (q) (q + 1) (by omega) (by omega) dk[q + 1]! dk[q]!
          have na1 : (enc dk[q]!).length = k := R.hk _
          have nb1 : (enc dk[q + 1]!).length = k := R.hk _
          generalize enc dk[q]! = cI at S3 la1 sb1 na1
          generalize enc dk[q + 1]! = cJ at S3 lb1 sa1 sb1 nb1
          clear S1
          go_wp2_with fail
          go_big_region_o
          clear la1 lb1 sa1 sb1
          generalize (wr.drew.setCells blk (off + (q) * k) cJ).setCells blk (off + (q + 1) * k) cI = w3 at S3 ⊢
          clear ea1 pa1 ba1 ra1 ec1 pc1 bc1 rc1
          go_wp2
          go_roundg (i - (q + 1))
          case measure => omega
          case rel => exact ⟨q + 1, swp dk q (q + 1), by first | rfl | go_num | (congr 1; omega), by omega, by omega, Nat.le_refl _, by rw [swp_size]; exact hdk, S3, Y1.out.up haq (by omega)⟩
        · have hqz : decide ((q : Int) < (i : Int) - 1) = false := decide_eq_false (by omega)
          have hqz' : decide ((q : Int) + 1 < (i : Int)) = false := decide_eq_false (by omega)
          have Y2 : Aside (Rot a (a + 1) i d dk) := by have e : q + 1 = i := by omega
                                                       subst e; exact Y1.out
          go_wp2
          refine bodyPost_ret (results_none rfl _ _ _) rfl ?_
          exact ⟨rfl, dk, S1.out, SrU.done (by have e := H1.out; rw [← e]; exact X2.out) (by have e := H1.out; rw [← e]; exact O2.out) (by omega) Y2.out⟩
end Go.Proofs.Ytpldapjcojjicaa.B

namespace Go.Proofs.Ytpldapjcojjicaa.B
open Go.Proofs Go.Shelf Go.RowKit Go.Lib Go.Sort
set_option linter.unusedVariables false
set_option linter.unusedSimpArgs false
variable {α : Type} [Inhabited α]

set_option maxHeartbeats 4000000 in
set_option maxRecDepth 1000000 in
theorem symDownK (enc : α → List Value) (P : Program) (k : Nat) (L : PK P k) (cf : α → α → Int) (key : α → Int) (hcf0 : ∀ x y, cf x y < 0 ↔ key x < key y) (g : Nat) (cb : Array Value) (eg : ∀ args w, (callFunc g args).run P w = .ok (.enter g args) w) (w0 W : World) (blk off N cap a m b : Nat) (d0 d : Array α) (R : RowK enc k w0 blk off d0) (hcmp : CmpLays P g cb enc k cf blk off N w0) (hd0 : d0.size = N) (hd : d.size = N) (S : SWK enc k w0 blk off d W) (ham : a < m) (hmb : m < b) (hb : b ≤ N) (hN : N < 4611686018427387904) (O1 : SrtOn key d a m) (O2 : SrtOn key d m b) (h1 : m ≠ a + 1) (h2 : b = m + 1) :
    Calls P 70 #[.slice (some ⟨blk, off, none⟩) N cap, .int .i64 a, .int .i64 m, .int .i64 b, .func (.func g) #[] cb] W fun e W' => e = .returned (.tuple #[]) ∧ ∃ d', SWK enc k w0 blk off d' W' ∧ Stp key a b d d' ∧ SrtOn key d' a b := by
  have mixed := L.mixed; have t0 := L.t0; have a0 := L.a0; have z0 := L.z0; have v0 := L.v0; have t3 := L.t3; have a3 := L.a3; have z3 := L.z3; have v3 := L.v3; have t4 := L.t4; have a4 := L.a4; have z4 := L.z4; have v4 := L.v4; have t73 := L.t73; have a73 := L.a73; have z73 := L.z73; have v73 := L.v73; have t85 := L.t85; have a85 := L.a85; have z85 := L.z85; have v85 := L.v85; have t89 := L.t89; have a89 := L.a89; have z89 := L.z89; have v89 := L.v89; have aE := L.aE; have zE := L.zE
  have S0 : Aside (SWK enc k w0 blk off d W) := S
  have HC : Aside _ := hcmp
  have hcf : Aside _ := hcf0
  have O1 : Aside _ := O1
  have O2 : Aside _ := O2
  clear S hcmp hcf0
  have k1 : ((m : Int) - (a : Int) == 1) = false := by simp; omega
  have k2 : ((b : Int) - (m : Int) == 1) = true := by simp; omega
  have H1 : Aside _ := h1
  have H2 : Aside _ := h2
  clear h1 h2
  go_enter L.f70, Try.ntmps70
  go_wp2
  go_loopg [14, 15, 16] m (fun gh v14 v15 v16 wr => ∃ (i j : Nat), v14 = .int .i64 (i : Int) ∧ v15 = .int .i64 (j : Int) ∧ j - i ≤ gh ∧ Aside (SWK enc k w0 blk off d wr) ∧ Aside (SrD key d a m i j))
  case atStart => exact ⟨a, m, rfl, rfl, by omega, S0, SrD.start key d a m (by omega)⟩
  case round =>
    clear S0
    obtain ⟨i, j, rfl, rfl, hg, S1, X1⟩ := hrel
    have l1 := X1.out.l1; have l2 := X1.out.l2; have l3 := X1.out.l3
    by_cases hc : i < j
    · have hcb : decide ((i : Int) < (j : Int)) = true := decide_eq_true (by omega)
      have hcb' : decide (i < j) = true := decide_eq_true hc
      by_cases hl : key d[m]! < key d[(i + j) / 2]!
      · have X2 : Aside (SrD key d a m i ((i + j) / 2)) := X1.out.right O1.out (by omega) (by omega) hl
        clear X1
        have ea0 : ((m : Int)).toNat = m := by omega
        have pa0 : (0 : Int) ≤ (m : Int) := by omega
        have ba0 : (m : Int) < (N : Int) := by omega
        have ra0 : IntKind.i64.wrap ((m : Int)) = (m : Int) := by rw [IntKind.wrap_i64]; omega
        have ec0 : (((i : Int) + (j : Int)) / 2).toNat = (i + j) / 2 := by omega
        have pc0 : (0 : Int) ≤ ((i : Int) + (j : Int)) / 2 := by omega
        have bc0 : ((i : Int) + (j : Int)) / 2 < (N : Int) := by omega
        have rc0 : IntKind.i64.wrap (((i : Int) + (j : Int)) / 2) = ((i : Int) + (j : Int)) / 2 := by rw [IntKind.wrap_i64]; omega
        obtain ⟨x0, hx0⟩ : ∃ x, x = d[m]! := ⟨_, rfl⟩
        obtain ⟨y0, hy0⟩ : ∃ x, x = d[(i + j) / 2]! := ⟨_, rfl⟩
        have la0 := S1.out.ld R (by omega) P (m) (by omega)
        have lb0 := S1.out.ld R (by omega) P ((i + j) / 2) (by omega)
        rw [← hx0] at la0
        rw [← hy0] at lb0
        have hc0 := S1.out.cmp HC.out (by omega) x0 y0
        have hd0' : decide (cf x0 y0 < 0) = true := by rw [hx0, hy0]; exact decide_eq_true ((hcf.out _ _).2 hl)
        clear hx0 hy0
        have hv0 := of_decide_eq_true hd0'
        go_wp2_with fail
        go_quiet_grown (first | (go_at_fn g; refine Calls.grown_of (hc0 _ _)))
        have S2 : Aside (SWK enc k w0 blk off d (grow (wr.drewN nq) osq)) := S1.out.grown nq osq
        clear la0 lb0 hc0 S1
        generalize grow (wr.drewN nq) osq = w2 at S2 ⊢
        clear nq osq
        clear ea0 pa0 ba0 ra0 ec0 pc0 bc0 rc0
        go_wp2
        go_roundg (j - i - 1)
        case measure => omega
        case rel => exact ⟨i, (i + j) / 2, rfl, by first | rfl | (congr 1; omega), by omega, S2, X2⟩
      · have X2 : Aside (SrD key d a m ((i + j) / 2 + 1) j) := X1.out.left O1.out (by omega) (by omega) hl
        clear X1
        have ea0 : ((m : Int)).toNat = m := by omega
        have pa0 : (0 : Int) ≤ (m : Int) := by omega
        have ba0 : (m : Int) < (N : Int) := by omega
        have ra0 : IntKind.i64.wrap ((m : Int)) = (m : Int) := by rw [IntKind.wrap_i64]; omega
        have ec0 : (((i : Int) + (j : Int)) / 2).toNat = (i + j) / 2 := by omega
        have pc0 : (0 : Int) ≤ ((i : Int) + (j : Int)) / 2 := by omega
        have bc0 : ((i : Int) + (j : Int)) / 2 < (N : Int) := by omega
        have rc0 : IntKind.i64.wrap (((i : Int) + (j : Int)) / 2) = ((i : Int) + (j : Int)) / 2 := by rw [IntKind.wrap_i64]; omega
        obtain ⟨x0, hx0⟩ : ∃ x, x = d[m]! := ⟨_, rfl⟩
        obtain ⟨y0, hy0⟩ : ∃ x, x = d[(i + j) / 2]! := ⟨_, rfl⟩
        have la0 := S1.out.ld R (by omega) P (m) (by omega)
        have lb0 := S1.out.ld R (by omega) P ((i + j) / 2) (by omega)
        rw [← hx0] at la0
        rw [← hy0] at lb0
        have hc0 := S1.out.cmp HC.out (by omega) x0 y0
        have hd0' : decide (cf x0 y0 < 0) = false := by rw [hx0, hy0]; exact decide_eq_false (fun h => hl ((hcf.out _ _).1 h))
        clear hx0 hy0
        have hv0 := of_decide_eq_false hd0'
        go_wp2_with fail
        go_quiet_grown (first | (go_at_fn g; refine Calls.grown_of (hc0 _ _)))
        have S2 : Aside (SWK enc k w0 blk off d (grow (wr.drewN nq) osq)) := S1.out.grown nq osq
        clear la0 lb0 hc0 S1
        generalize grow (wr.drewN nq) osq = w2 at S2 ⊢
        clear nq osq
        clear ea0 pa0 ba0 ra0 ec0 pc0 bc0 rc0
        have rh : IntKind.i64.wrap (((i : Int) + (j : Int)) / 2 + 1) = ((i : Int) + (j : Int)) / 2 + 1 := by rw [IntKind.wrap_i64]; omega
        go_wp2
        go_roundg (j - i - 1)
        case measure => omega
        case rel => exact ⟨(i + j) / 2 + 1, j, by first | rfl | (congr 1; omega), rfl, by omega, S2, X2⟩
    · have hcb : decide ((i : Int) < (j : Int)) = false := decide_eq_false (by omega)
      have hcb' : decide (i < j) = false := decide_eq_false hc
      have X2 : Aside (SrD key d a m i i) := by have e : i = j := by omega
                                                subst e; exact X1.out
      clear X1
      obtain ⟨wo, rfl⟩ : ∃ wo : World, wo = wr := ⟨_, rfl⟩
      go_wp2
      go_loopg [17] m (fun gh v17 wr => ∃ (q : Nat) (dk : Array α), v17 = .int .i64 (q : Int) ∧ i ≤ q ∧ q ≤ m ∧ q ≤ gh ∧ dk.size = N ∧ Aside (SWK enc k w0 blk off dk wr) ∧ Aside (Rot q m (m + 1) d dk))
      case atStart => exact ⟨m, d, rfl, by omega, Nat.le_refl _, Nat.le_refl _, hd, S1, Rot.refl2 m (m + 1) d⟩
      case round =>
        clear S1
        obtain ⟨q, dk, rfl, haq, hqi, hg2, hdk, S1, Y1⟩ := hrel
        by_cases hq : i < q
        · obtain ⟨qp, rfl⟩ : ∃ qp, q = qp + 1 := ⟨q - 1, by omega⟩
          have hqz : decide ((i : Int) < (qp : Int) + 1) = true := decide_eq_true (by omega)
          have hwp : IntKind.i64.wrap (qp : Int) = (qp : Int) := by rw [IntKind.wrap_i64]; omega
          go_wp2_with fail
          have ea1 : ((qp : Int) + 1).toNat = qp + 1 := by omega
          have pa1 : (0 : Int) ≤ (qp : Int) + 1 := by omega
          have ba1 : (qp : Int) + 1 < (N : Int) := by omega
          have ra1 : IntKind.i64.wrap ((qp : Int) + 1) = (qp : Int) + 1 := by rw [IntKind.wrap_i64]; omega
          have ec1 : ((qp : Int)).toNat = qp := by omega
          have pc1 : (0 : Int) ≤ (qp : Int) := by omega
          have bc1 : (qp : Int) < (N : Int) := by omega
          have rc1 : IntKind.i64.wrap ((qp : Int)) = (qp : Int) := by rw [IntKind.wrap_i64]; omega
          have S3 : Aside (SWK enc k w0 blk off (swp dk (qp + 1) (qp)) ((wr.drew.setCells blk (off + (qp + 1) * k) (enc dk[qp]!)).setCells blk (off + (qp) * k) (enc dk[qp + 1]!))) := S1.out.swapped R (qp + 1) (qp) (by omega) (by omega)
          have la1 := S1.out.ld1 R (by omega) P (qp + 1) (by omega)
          have lb1 := S1.out.ld1 R (by omega) P (qp) (by omega)
          have sa1 := S1.out.st1 R (by omega) P (qp + 1) (by omega) dk[qp]!
          have sb1 := S1.out.st2 R (by omega) P (qp + 1) (qp) (by omega) (by omega) dk[qp]! dk[qp + 1]!
          have na1 : (enc dk[qp + 1]!).length = k := R.hk _
          have nb1 : (enc dk[qp]!).length = k := R.hk _
          generalize enc dk[qp + 1]! = cI at S3 la1 sb1 na1
          generalize enc dk[qp]! = cJ at S3 lb1 sa1 sb1 nb1
          clear S1
          go_wp2_with fail
          go_big_region_o
          clear la1 lb1 sa1 sb1
          generalize (wr.drew.setCells blk (off + (qp + 1) * k) cJ).setCells blk (off + (qp) * k) cI = w3 at S3 ⊢
          clear ea1 pa1 ba1 ra1 ec1 pc1 bc1 rc1
          go_wp2
          go_roundg qp
          case measure => omega
          case rel => exact ⟨qp, swp dk (qp + 1) qp, by first | rfl | go_num | (congr 1; omega), by omega, by omega, Nat.le_refl _, by rw [swp_size]; exact hdk, S3, Y1.out.down (by omega) (by have := H2.out; omega)⟩
        · have hqz : decide ((i : Int) < (q : Int)) = false := decide_eq_false (by omega)
          have hqz' : decide (i < q) = false := decide_eq_false (by omega)
          have Y2 : Aside (Rot i m (m + 1) d dk) := by have e : q = i := by omega
                                                       subst e; exact Y1.out
          go_wp2
          refine bodyPost_ret (results_none rfl _ _ _) rfl ?_
          have hz := SrD.done X2.out O1.out (by have := H2.out; omega) Y2.out
          rw [← H2.out] at hz
          exact ⟨rfl, dk, S1.out, hz⟩
end Go.Proofs.Ytpldapjcojjicaa.B
