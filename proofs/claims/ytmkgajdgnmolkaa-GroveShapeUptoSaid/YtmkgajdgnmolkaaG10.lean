/-
  Texts of this claim, joined (by a program of the claim's author): RPart, RName.
-/
import Derived.Test.YtmkgajdgnmolkaaG2
import Derived.Test.YtmkgajdgnmolkaaG1
/-
  The walks of ref01.Start and ref01.Part.
-/
namespace Go.Proofs.Ytmkgajdgnmolkaa
open Go.RowKit

set_option maxRecDepth 100000 in
set_option maxHeartbeats 4000000 in
theorem RStart_any (c : Int) (w : World) : Calls Try.prog 71 #[.int .i32 c] w (Ret w (.bool (startB c))) := by
  rcases Int.lt_or_le c 65 with k0 | k0
  · have e95 : (c == 95) = false := by simp; omega
    have e8204 : (c == 8204) = false := by simp; omega
    have e8205 : (c == 8205) = false := by simp; omega
    have a65 : decide ((65 : Int) ≤ c) = false := by simp; omega
    have b90 : decide (c ≤ (90 : Int)) = true := by simp; omega
    have a97 : decide ((97 : Int) ≤ c) = false := by simp; omega
    have b122 : decide (c ≤ (122 : Int)) = true := by simp; omega
    have a192 : decide ((192 : Int) ≤ c) = false := by simp; omega
    have b214 : decide (c ≤ (214 : Int)) = true := by simp; omega
    have a216 : decide ((216 : Int) ≤ c) = false := by simp; omega
    have b246 : decide (c ≤ (246 : Int)) = true := by simp; omega
    have a248 : decide ((248 : Int) ≤ c) = false := by simp; omega
    have b767 : decide (c ≤ (767 : Int)) = true := by simp; omega
    have a880 : decide ((880 : Int) ≤ c) = false := by simp; omega
    have b893 : decide (c ≤ (893 : Int)) = true := by simp; omega
    have a895 : decide ((895 : Int) ≤ c) = false := by simp; omega
    have b8191 : decide (c ≤ (8191 : Int)) = true := by simp; omega
    have a8304 : decide ((8304 : Int) ≤ c) = false := by simp; omega
    have b8591 : decide (c ≤ (8591 : Int)) = true := by simp; omega
    have a11264 : decide ((11264 : Int) ≤ c) = false := by simp; omega
    have b12271 : decide (c ≤ (12271 : Int)) = true := by simp; omega
    have a12289 : decide ((12289 : Int) ≤ c) = false := by simp; omega
    have b55295 : decide (c ≤ (55295 : Int)) = true := by simp; omega
    have a63744 : decide ((63744 : Int) ≤ c) = false := by simp; omega
    have b64975 : decide (c ≤ (64975 : Int)) = true := by simp; omega
    have a65008 : decide ((65008 : Int) ≤ c) = false := by simp; omega
    have b65533 : decide (c ≤ (65533 : Int)) = true := by simp; omega
    have a65536 : decide ((65536 : Int) ≤ c) = false := by simp; omega
    have b983039 : decide (c ≤ (983039 : Int)) = true := by simp; omega
    have hv : Hid (startB c = false) := by show _ = _; unfold startB; simp; omega
    clear k0
    go_enter Try.func71, Try.ntmps71
    go_wp2_with fail
    go_ret
    exact ⟨by rw [hv.out]; rfl, Below.refl _ _⟩
  rcases Int.lt_or_le c 91 with k1 | k1
  · have e95 : (c == 95) = false := by simp; omega
    have e8204 : (c == 8204) = false := by simp; omega
    have e8205 : (c == 8205) = false := by simp; omega
    have a65 : decide ((65 : Int) ≤ c) = true := by simp; omega
    have b90 : decide (c ≤ (90 : Int)) = true := by simp; omega
    have a97 : decide ((97 : Int) ≤ c) = false := by simp; omega
    have b122 : decide (c ≤ (122 : Int)) = true := by simp; omega
    have a192 : decide ((192 : Int) ≤ c) = false := by simp; omega
    have b214 : decide (c ≤ (214 : Int)) = true := by simp; omega
    have a216 : decide ((216 : Int) ≤ c) = false := by simp; omega
    have b246 : decide (c ≤ (246 : Int)) = true := by simp; omega
    have a248 : decide ((248 : Int) ≤ c) = false := by simp; omega
    have b767 : decide (c ≤ (767 : Int)) = true := by simp; omega
    have a880 : decide ((880 : Int) ≤ c) = false := by simp; omega
    have b893 : decide (c ≤ (893 : Int)) = true := by simp; omega
    have a895 : decide ((895 : Int) ≤ c) = false := by simp; omega
    have b8191 : decide (c ≤ (8191 : Int)) = true := by simp; omega
    have a8304 : decide ((8304 : Int) ≤ c) = false := by simp; omega
    have b8591 : decide (c ≤ (8591 : Int)) = true := by simp; omega
    have a11264 : decide ((11264 : Int) ≤ c) = false := by simp; omega
    have b12271 : decide (c ≤ (12271 : Int)) = true := by simp; omega
    have a12289 : decide ((12289 : Int) ≤ c) = false := by simp; omega
    have b55295 : decide (c ≤ (55295 : Int)) = true := by simp; omega
    have a63744 : decide ((63744 : Int) ≤ c) = false := by simp; omega
    have b64975 : decide (c ≤ (64975 : Int)) = true := by simp; omega
    have a65008 : decide ((65008 : Int) ≤ c) = false := by simp; omega
    have b65533 : decide (c ≤ (65533 : Int)) = true := by simp; omega
    have a65536 : decide ((65536 : Int) ≤ c) = false := by simp; omega
    have b983039 : decide (c ≤ (983039 : Int)) = true := by simp; omega
    have hv : Hid (startB c = true) := by show _ = _; unfold startB; simp; omega
    clear k0 k1
    go_enter Try.func71, Try.ntmps71
    go_wp2_with fail
    go_ret
    exact ⟨by rw [hv.out]; rfl, Below.refl _ _⟩
  rcases Int.lt_or_le c 95 with k2 | k2
  · have e95 : (c == 95) = false := by simp; omega
    have e8204 : (c == 8204) = false := by simp; omega
    have e8205 : (c == 8205) = false := by simp; omega
    have a65 : decide ((65 : Int) ≤ c) = true := by simp; omega
    have b90 : decide (c ≤ (90 : Int)) = false := by simp; omega
    have a97 : decide ((97 : Int) ≤ c) = false := by simp; omega
    have b122 : decide (c ≤ (122 : Int)) = true := by simp; omega
    have a192 : decide ((192 : Int) ≤ c) = false := by simp; omega
    have b214 : decide (c ≤ (214 : Int)) = true := by simp; omega
    have a216 : decide ((216 : Int) ≤ c) = false := by simp; omega
    have b246 : decide (c ≤ (246 : Int)) = true := by simp; omega
    have a248 : decide ((248 : Int) ≤ c) = false := by simp; omega
    have b767 : decide (c ≤ (767 : Int)) = true := by simp; omega
    have a880 : decide ((880 : Int) ≤ c) = false := by simp; omega
    have b893 : decide (c ≤ (893 : Int)) = true := by simp; omega
    have a895 : decide ((895 : Int) ≤ c) = false := by simp; omega
    have b8191 : decide (c ≤ (8191 : Int)) = true := by simp; omega
    have a8304 : decide ((8304 : Int) ≤ c) = false := by simp; omega
    have b8591 : decide (c ≤ (8591 : Int)) = true := by simp; omega
    have a11264 : decide ((11264 : Int) ≤ c) = false := by simp; omega
    have b12271 : decide (c ≤ (12271 : Int)) = true := by simp; omega
    have a12289 : decide ((12289 : Int) ≤ c) = false := by simp; omega
    have b55295 : decide (c ≤ (55295 : Int)) = true := by simp; omega
    have a63744 : decide ((63744 : Int) ≤ c) = false := by simp; omega
    have b64975 : decide (c ≤ (64975 : Int)) = true := by simp; omega
    have a65008 : decide ((65008 : Int) ≤ c) = false := by simp; omega
    have b65533 : decide (c ≤ (65533 : Int)) = true := by simp; omega
    have a65536 : decide ((65536 : Int) ≤ c) = false := by simp; omega
    have b983039 : decide (c ≤ (983039 : Int)) = true := by simp; omega
    have hv : Hid (startB c = false) := by show _ = _; unfold startB; simp; omega
    clear k0 k1 k2
    go_enter Try.func71, Try.ntmps71
    go_wp2_with fail
    go_ret
    exact ⟨by rw [hv.out]; rfl, Below.refl _ _⟩
  rcases Int.lt_or_le c 96 with k3 | k3
  · have e95 : (c == 95) = true := by simp; omega
    have e8204 : (c == 8204) = false := by simp; omega
    have e8205 : (c == 8205) = false := by simp; omega
    have a65 : decide ((65 : Int) ≤ c) = true := by simp; omega
    have b90 : decide (c ≤ (90 : Int)) = false := by simp; omega
    have a97 : decide ((97 : Int) ≤ c) = false := by simp; omega
    have b122 : decide (c ≤ (122 : Int)) = true := by simp; omega
    have a192 : decide ((192 : Int) ≤ c) = false := by simp; omega
    have b214 : decide (c ≤ (214 : Int)) = true := by simp; omega
    have a216 : decide ((216 : Int) ≤ c) = false := by simp; omega
    have b246 : decide (c ≤ (246 : Int)) = true := by simp; omega
    have a248 : decide ((248 : Int) ≤ c) = false := by simp; omega
    have b767 : decide (c ≤ (767 : Int)) = true := by simp; omega
    have a880 : decide ((880 : Int) ≤ c) = false := by simp; omega
    have b893 : decide (c ≤ (893 : Int)) = true := by simp; omega
    have a895 : decide ((895 : Int) ≤ c) = false := by simp; omega
    have b8191 : decide (c ≤ (8191 : Int)) = true := by simp; omega
    have a8304 : decide ((8304 : Int) ≤ c) = false := by simp; omega
    have b8591 : decide (c ≤ (8591 : Int)) = true := by simp; omega
    have a11264 : decide ((11264 : Int) ≤ c) = false := by simp; omega
    have b12271 : decide (c ≤ (12271 : Int)) = true := by simp; omega
    have a12289 : decide ((12289 : Int) ≤ c) = false := by simp; omega
    have b55295 : decide (c ≤ (55295 : Int)) = true := by simp; omega
    have a63744 : decide ((63744 : Int) ≤ c) = false := by simp; omega
    have b64975 : decide (c ≤ (64975 : Int)) = true := by simp; omega
    have a65008 : decide ((65008 : Int) ≤ c) = false := by simp; omega
    have b65533 : decide (c ≤ (65533 : Int)) = true := by simp; omega
    have a65536 : decide ((65536 : Int) ≤ c) = false := by simp; omega
    have b983039 : decide (c ≤ (983039 : Int)) = true := by simp; omega
    have hv : Hid (startB c = true) := by show _ = _; unfold startB; simp; omega
    clear k0 k1 k2 k3
    go_enter Try.func71, Try.ntmps71
    go_wp2_with fail
    go_ret
    exact ⟨by rw [hv.out]; rfl, Below.refl _ _⟩
  rcases Int.lt_or_le c 97 with k4 | k4
  · have e95 : (c == 95) = false := by simp; omega
    have e8204 : (c == 8204) = false := by simp; omega
    have e8205 : (c == 8205) = false := by simp; omega
    have a65 : decide ((65 : Int) ≤ c) = true := by simp; omega
    have b90 : decide (c ≤ (90 : Int)) = false := by simp; omega
    have a97 : decide ((97 : Int) ≤ c) = false := by simp; omega
    have b122 : decide (c ≤ (122 : Int)) = true := by simp; omega
    have a192 : decide ((192 : Int) ≤ c) = false := by simp; omega
    have b214 : decide (c ≤ (214 : Int)) = true := by simp; omega
    have a216 : decide ((216 : Int) ≤ c) = false := by simp; omega
    have b246 : decide (c ≤ (246 : Int)) = true := by simp; omega
    have a248 : decide ((248 : Int) ≤ c) = false := by simp; omega
    have b767 : decide (c ≤ (767 : Int)) = true := by simp; omega
    have a880 : decide ((880 : Int) ≤ c) = false := by simp; omega
    have b893 : decide (c ≤ (893 : Int)) = true := by simp; omega
    have a895 : decide ((895 : Int) ≤ c) = false := by simp; omega
    have b8191 : decide (c ≤ (8191 : Int)) = true := by simp; omega
    have a8304 : decide ((8304 : Int) ≤ c) = false := by simp; omega
    have b8591 : decide (c ≤ (8591 : Int)) = true := by simp; omega
    have a11264 : decide ((11264 : Int) ≤ c) = false := by simp; omega
    have b12271 : decide (c ≤ (12271 : Int)) = true := by simp; omega
    have a12289 : decide ((12289 : Int) ≤ c) = false := by simp; omega
    have b55295 : decide (c ≤ (55295 : Int)) = true := by simp; omega
    have a63744 : decide ((63744 : Int) ≤ c) = false := by simp; omega
    have b64975 : decide (c ≤ (64975 : Int)) = true := by simp; omega
    have a65008 : decide ((65008 : Int) ≤ c) = false := by simp; omega
    have b65533 : decide (c ≤ (65533 : Int)) = true := by simp; omega
    have a65536 : decide ((65536 : Int) ≤ c) = false := by simp; omega
    have b983039 : decide (c ≤ (983039 : Int)) = true := by simp; omega
    have hv : Hid (startB c = false) := by show _ = _; unfold startB; simp; omega
    clear k0 k1 k2 k3 k4
    go_enter Try.func71, Try.ntmps71
    go_wp2_with fail
    go_ret
    exact ⟨by rw [hv.out]; rfl, Below.refl _ _⟩
  rcases Int.lt_or_le c 123 with k5 | k5
  · have e95 : (c == 95) = false := by simp; omega
    have e8204 : (c == 8204) = false := by simp; omega
    have e8205 : (c == 8205) = false := by simp; omega
    have a65 : decide ((65 : Int) ≤ c) = true := by simp; omega
    have b90 : decide (c ≤ (90 : Int)) = false := by simp; omega
    have a97 : decide ((97 : Int) ≤ c) = true := by simp; omega
    have b122 : decide (c ≤ (122 : Int)) = true := by simp; omega
    have a192 : decide ((192 : Int) ≤ c) = false := by simp; omega
    have b214 : decide (c ≤ (214 : Int)) = true := by simp; omega
    have a216 : decide ((216 : Int) ≤ c) = false := by simp; omega
    have b246 : decide (c ≤ (246 : Int)) = true := by simp; omega
    have a248 : decide ((248 : Int) ≤ c) = false := by simp; omega
    have b767 : decide (c ≤ (767 : Int)) = true := by simp; omega
    have a880 : decide ((880 : Int) ≤ c) = false := by simp; omega
    have b893 : decide (c ≤ (893 : Int)) = true := by simp; omega
    have a895 : decide ((895 : Int) ≤ c) = false := by simp; omega
    have b8191 : decide (c ≤ (8191 : Int)) = true := by simp; omega
    have a8304 : decide ((8304 : Int) ≤ c) = false := by simp; omega
    have b8591 : decide (c ≤ (8591 : Int)) = true := by simp; omega
    have a11264 : decide ((11264 : Int) ≤ c) = false := by simp; omega
    have b12271 : decide (c ≤ (12271 : Int)) = true := by simp; omega
    have a12289 : decide ((12289 : Int) ≤ c) = false := by simp; omega
    have b55295 : decide (c ≤ (55295 : Int)) = true := by simp; omega
    have a63744 : decide ((63744 : Int) ≤ c) = false := by simp; omega
    have b64975 : decide (c ≤ (64975 : Int)) = true := by simp; omega
    have a65008 : decide ((65008 : Int) ≤ c) = false := by simp; omega
    have b65533 : decide (c ≤ (65533 : Int)) = true := by simp; omega
    have a65536 : decide ((65536 : Int) ≤ c) = false := by simp; omega
    have b983039 : decide (c ≤ (983039 : Int)) = true := by simp; omega
    have hv : Hid (startB c = true) := by show _ = _; unfold startB; simp; omega
    clear k0 k1 k2 k3 k4 k5
    go_enter Try.func71, Try.ntmps71
    go_wp2_with fail
    go_ret
    exact ⟨by rw [hv.out]; rfl, Below.refl _ _⟩
  rcases Int.lt_or_le c 192 with k6 | k6
  · have e95 : (c == 95) = false := by simp; omega
    have e8204 : (c == 8204) = false := by simp; omega
    have e8205 : (c == 8205) = false := by simp; omega
    have a65 : decide ((65 : Int) ≤ c) = true := by simp; omega
    have b90 : decide (c ≤ (90 : Int)) = false := by simp; omega
    have a97 : decide ((97 : Int) ≤ c) = true := by simp; omega
    have b122 : decide (c ≤ (122 : Int)) = false := by simp; omega
    have a192 : decide ((192 : Int) ≤ c) = false := by simp; omega
    have b214 : decide (c ≤ (214 : Int)) = true := by simp; omega
    have a216 : decide ((216 : Int) ≤ c) = false := by simp; omega
    have b246 : decide (c ≤ (246 : Int)) = true := by simp; omega
    have a248 : decide ((248 : Int) ≤ c) = false := by simp; omega
    have b767 : decide (c ≤ (767 : Int)) = true := by simp; omega
    have a880 : decide ((880 : Int) ≤ c) = false := by simp; omega
    have b893 : decide (c ≤ (893 : Int)) = true := by simp; omega
    have a895 : decide ((895 : Int) ≤ c) = false := by simp; omega
    have b8191 : decide (c ≤ (8191 : Int)) = true := by simp; omega
    have a8304 : decide ((8304 : Int) ≤ c) = false := by simp; omega
    have b8591 : decide (c ≤ (8591 : Int)) = true := by simp; omega
    have a11264 : decide ((11264 : Int) ≤ c) = false := by simp; omega
    have b12271 : decide (c ≤ (12271 : Int)) = true := by simp; omega
    have a12289 : decide ((12289 : Int) ≤ c) = false := by simp; omega
    have b55295 : decide (c ≤ (55295 : Int)) = true := by simp; omega
    have a63744 : decide ((63744 : Int) ≤ c) = false := by simp; omega
    have b64975 : decide (c ≤ (64975 : Int)) = true := by simp; omega
    have a65008 : decide ((65008 : Int) ≤ c) = false := by simp; omega
    have b65533 : decide (c ≤ (65533 : Int)) = true := by simp; omega
    have a65536 : decide ((65536 : Int) ≤ c) = false := by simp; omega
    have b983039 : decide (c ≤ (983039 : Int)) = true := by simp; omega
    have hv : Hid (startB c = false) := by show _ = _; unfold startB; simp; omega
    clear k0 k1 k2 k3 k4 k5 k6
    go_enter Try.func71, Try.ntmps71
    go_wp2_with fail
    go_ret
    exact ⟨by rw [hv.out]; rfl, Below.refl _ _⟩
  rcases Int.lt_or_le c 215 with k7 | k7
  · have e95 : (c == 95) = false := by simp; omega
    have e8204 : (c == 8204) = false := by simp; omega
    have e8205 : (c == 8205) = false := by simp; omega
    have a65 : decide ((65 : Int) ≤ c) = true := by simp; omega
    have b90 : decide (c ≤ (90 : Int)) = false := by simp; omega
    have a97 : decide ((97 : Int) ≤ c) = true := by simp; omega
    have b122 : decide (c ≤ (122 : Int)) = false := by simp; omega
    have a192 : decide ((192 : Int) ≤ c) = true := by simp; omega
    have b214 : decide (c ≤ (214 : Int)) = true := by simp; omega
    have a216 : decide ((216 : Int) ≤ c) = false := by simp; omega
    have b246 : decide (c ≤ (246 : Int)) = true := by simp; omega
    have a248 : decide ((248 : Int) ≤ c) = false := by simp; omega
    have b767 : decide (c ≤ (767 : Int)) = true := by simp; omega
    have a880 : decide ((880 : Int) ≤ c) = false := by simp; omega
    have b893 : decide (c ≤ (893 : Int)) = true := by simp; omega
    have a895 : decide ((895 : Int) ≤ c) = false := by simp; omega
    have b8191 : decide (c ≤ (8191 : Int)) = true := by simp; omega
    have a8304 : decide ((8304 : Int) ≤ c) = false := by simp; omega
    have b8591 : decide (c ≤ (8591 : Int)) = true := by simp; omega
    have a11264 : decide ((11264 : Int) ≤ c) = false := by simp; omega
    have b12271 : decide (c ≤ (12271 : Int)) = true := by simp; omega
    have a12289 : decide ((12289 : Int) ≤ c) = false := by simp; omega
    have b55295 : decide (c ≤ (55295 : Int)) = true := by simp; omega
    have a63744 : decide ((63744 : Int) ≤ c) = false := by simp; omega
    have b64975 : decide (c ≤ (64975 : Int)) = true := by simp; omega
    have a65008 : decide ((65008 : Int) ≤ c) = false := by simp; omega
    have b65533 : decide (c ≤ (65533 : Int)) = true := by simp; omega
    have a65536 : decide ((65536 : Int) ≤ c) = false := by simp; omega
    have b983039 : decide (c ≤ (983039 : Int)) = true := by simp; omega
    have hv : Hid (startB c = true) := by show _ = _; unfold startB; simp; omega
    clear k0 k1 k2 k3 k4 k5 k6 k7
    go_enter Try.func71, Try.ntmps71
    go_wp2_with fail
    go_ret
    exact ⟨by rw [hv.out]; rfl, Below.refl _ _⟩
  rcases Int.lt_or_le c 216 with k8 | k8
  · have e95 : (c == 95) = false := by simp; omega
    have e8204 : (c == 8204) = false := by simp; omega
    have e8205 : (c == 8205) = false := by simp; omega
    have a65 : decide ((65 : Int) ≤ c) = true := by simp; omega
    have b90 : decide (c ≤ (90 : Int)) = false := by simp; omega
    have a97 : decide ((97 : Int) ≤ c) = true := by simp; omega
    have b122 : decide (c ≤ (122 : Int)) = false := by simp; omega
    have a192 : decide ((192 : Int) ≤ c) = true := by simp; omega
    have b214 : decide (c ≤ (214 : Int)) = false := by simp; omega
    have a216 : decide ((216 : Int) ≤ c) = false := by simp; omega
    have b246 : decide (c ≤ (246 : Int)) = true := by simp; omega
    have a248 : decide ((248 : Int) ≤ c) = false := by simp; omega
    have b767 : decide (c ≤ (767 : Int)) = true := by simp; omega
    have a880 : decide ((880 : Int) ≤ c) = false := by simp; omega
    have b893 : decide (c ≤ (893 : Int)) = true := by simp; omega
    have a895 : decide ((895 : Int) ≤ c) = false := by simp; omega
    have b8191 : decide (c ≤ (8191 : Int)) = true := by simp; omega
    have a8304 : decide ((8304 : Int) ≤ c) = false := by simp; omega
    have b8591 : decide (c ≤ (8591 : Int)) = true := by simp; omega
    have a11264 : decide ((11264 : Int) ≤ c) = false := by simp; omega
    have b12271 : decide (c ≤ (12271 : Int)) = true := by simp; omega
    have a12289 : decide ((12289 : Int) ≤ c) = false := by simp; omega
    have b55295 : decide (c ≤ (55295 : Int)) = true := by simp; omega
    have a63744 : decide ((63744 : Int) ≤ c) = false := by simp; omega
    have b64975 : decide (c ≤ (64975 : Int)) = true := by simp; omega
    have a65008 : decide ((65008 : Int) ≤ c) = false := by simp; omega
    have b65533 : decide (c ≤ (65533 : Int)) = true := by simp; omega
    have a65536 : decide ((65536 : Int) ≤ c) = false := by simp; omega
    have b983039 : decide (c ≤ (983039 : Int)) = true := by simp; omega
    have hv : Hid (startB c = false) := by show _ = _; unfold startB; simp; omega
    clear k0 k1 k2 k3 k4 k5 k6 k7 k8
    go_enter Try.func71, Try.ntmps71
    go_wp2_with fail
    go_ret
    exact ⟨by rw [hv.out]; rfl, Below.refl _ _⟩
  rcases Int.lt_or_le c 247 with k9 | k9
  · have e95 : (c == 95) = false := by simp; omega
    have e8204 : (c == 8204) = false := by simp; omega
    have e8205 : (c == 8205) = false := by simp; omega
    have a65 : decide ((65 : Int) ≤ c) = true := by simp; omega
    have b90 : decide (c ≤ (90 : Int)) = false := by simp; omega
    have a97 : decide ((97 : Int) ≤ c) = true := by simp; omega
    have b122 : decide (c ≤ (122 : Int)) = false := by simp; omega
    have a192 : decide ((192 : Int) ≤ c) = true := by simp; omega
    have b214 : decide (c ≤ (214 : Int)) = false := by simp; omega
    have a216 : decide ((216 : Int) ≤ c) = true := by simp; omega
    have b246 : decide (c ≤ (246 : Int)) = true := by simp; omega
    have a248 : decide ((248 : Int) ≤ c) = false := by simp; omega
    have b767 : decide (c ≤ (767 : Int)) = true := by simp; omega
    have a880 : decide ((880 : Int) ≤ c) = false := by simp; omega
    have b893 : decide (c ≤ (893 : Int)) = true := by simp; omega
    have a895 : decide ((895 : Int) ≤ c) = false := by simp; omega
    have b8191 : decide (c ≤ (8191 : Int)) = true := by simp; omega
    have a8304 : decide ((8304 : Int) ≤ c) = false := by simp; omega
    have b8591 : decide (c ≤ (8591 : Int)) = true := by simp; omega
    have a11264 : decide ((11264 : Int) ≤ c) = false := by simp; omega
    have b12271 : decide (c ≤ (12271 : Int)) = true := by simp; omega
    have a12289 : decide ((12289 : Int) ≤ c) = false := by simp; omega
    have b55295 : decide (c ≤ (55295 : Int)) = true := by simp; omega
    have a63744 : decide ((63744 : Int) ≤ c) = false := by simp; omega
    have b64975 : decide (c ≤ (64975 : Int)) = true := by simp; omega
    have a65008 : decide ((65008 : Int) ≤ c) = false := by simp; omega
    have b65533 : decide (c ≤ (65533 : Int)) = true := by simp; omega
    have a65536 : decide ((65536 : Int) ≤ c) = false := by simp; omega
    have b983039 : decide (c ≤ (983039 : Int)) = true := by simp; omega
    have hv : Hid (startB c = true) := by show _ = _; unfold startB; simp; omega
    clear k0 k1 k2 k3 k4 k5 k6 k7 k8 k9
    go_enter Try.func71, Try.ntmps71
    go_wp2_with fail
    go_ret
    exact ⟨by rw [hv.out]; rfl, Below.refl _ _⟩
  rcases Int.lt_or_le c 248 with k10 | k10
  · have e95 : (c == 95) = false := by simp; omega
    have e8204 : (c == 8204) = false := by simp; omega
    have e8205 : (c == 8205) = false := by simp; omega
    have a65 : decide ((65 : Int) ≤ c) = true := by simp; omega
    have b90 : decide (c ≤ (90 : Int)) = false := by simp; omega
    have a97 : decide ((97 : Int) ≤ c) = true := by simp; omega
    have b122 : decide (c ≤ (122 : Int)) = false := by simp; omega
    have a192 : decide ((192 : Int) ≤ c) = true := by simp; omega
    have b214 : decide (c ≤ (214 : Int)) = false := by simp; omega
    have a216 : decide ((216 : Int) ≤ c) = true := by simp; omega
    have b246 : decide (c ≤ (246 : Int)) = false := by simp; omega
    have a248 : decide ((248 : Int) ≤ c) = false := by simp; omega
    have b767 : decide (c ≤ (767 : Int)) = true := by simp; omega
    have a880 : decide ((880 : Int) ≤ c) = false := by simp; omega
    have b893 : decide (c ≤ (893 : Int)) = true := by simp; omega
    have a895 : decide ((895 : Int) ≤ c) = false := by simp; omega
    have b8191 : decide (c ≤ (8191 : Int)) = true := by simp; omega
    have a8304 : decide ((8304 : Int) ≤ c) = false := by simp; omega
    have b8591 : decide (c ≤ (8591 : Int)) = true := by simp; omega
    have a11264 : decide ((11264 : Int) ≤ c) = false := by simp; omega
    have b12271 : decide (c ≤ (12271 : Int)) = true := by simp; omega
    have a12289 : decide ((12289 : Int) ≤ c) = false := by simp; omega
    have b55295 : decide (c ≤ (55295 : Int)) = true := by simp; omega
    have a63744 : decide ((63744 : Int) ≤ c) = false := by simp; omega
    have b64975 : decide (c ≤ (64975 : Int)) = true := by simp; omega
    have a65008 : decide ((65008 : Int) ≤ c) = false := by simp; omega
    have b65533 : decide (c ≤ (65533 : Int)) = true := by simp; omega
    have a65536 : decide ((65536 : Int) ≤ c) = false := by simp; omega
    have b983039 : decide (c ≤ (983039 : Int)) = true := by simp; omega
    have hv : Hid (startB c = false) := by show _ = _; unfold startB; simp; omega
    clear k0 k1 k2 k3 k4 k5 k6 k7 k8 k9 k10
    go_enter Try.func71, Try.ntmps71
    go_wp2_with fail
    go_ret
    exact ⟨by rw [hv.out]; rfl, Below.refl _ _⟩
  rcases Int.lt_or_le c 768 with k11 | k11
  · have e95 : (c == 95) = false := by simp; omega
    have e8204 : (c == 8204) = false := by simp; omega
    have e8205 : (c == 8205) = false := by simp; omega
    have a65 : decide ((65 : Int) ≤ c) = true := by simp; omega
    have b90 : decide (c ≤ (90 : Int)) = false := by simp; omega
    have a97 : decide ((97 : Int) ≤ c) = true := by simp; omega
    have b122 : decide (c ≤ (122 : Int)) = false := by simp; omega
    have a192 : decide ((192 : Int) ≤ c) = true := by simp; omega
    have b214 : decide (c ≤ (214 : Int)) = false := by simp; omega
    have a216 : decide ((216 : Int) ≤ c) = true := by simp; omega
    have b246 : decide (c ≤ (246 : Int)) = false := by simp; omega
    have a248 : decide ((248 : Int) ≤ c) = true := by simp; omega
    have b767 : decide (c ≤ (767 : Int)) = true := by simp; omega
    have a880 : decide ((880 : Int) ≤ c) = false := by simp; omega
    have b893 : decide (c ≤ (893 : Int)) = true := by simp; omega
    have a895 : decide ((895 : Int) ≤ c) = false := by simp; omega
    have b8191 : decide (c ≤ (8191 : Int)) = true := by simp; omega
    have a8304 : decide ((8304 : Int) ≤ c) = false := by simp; omega
    have b8591 : decide (c ≤ (8591 : Int)) = true := by simp; omega
    have a11264 : decide ((11264 : Int) ≤ c) = false := by simp; omega
    have b12271 : decide (c ≤ (12271 : Int)) = true := by simp; omega
    have a12289 : decide ((12289 : Int) ≤ c) = false := by simp; omega
    have b55295 : decide (c ≤ (55295 : Int)) = true := by simp; omega
    have a63744 : decide ((63744 : Int) ≤ c) = false := by simp; omega
    have b64975 : decide (c ≤ (64975 : Int)) = true := by simp; omega
    have a65008 : decide ((65008 : Int) ≤ c) = false := by simp; omega
    have b65533 : decide (c ≤ (65533 : Int)) = true := by simp; omega
    have a65536 : decide ((65536 : Int) ≤ c) = false := by simp; omega
    have b983039 : decide (c ≤ (983039 : Int)) = true := by simp; omega
    have hv : Hid (startB c = true) := by show _ = _; unfold startB; simp; omega
    clear k0 k1 k2 k3 k4 k5 k6 k7 k8 k9 k10 k11
    go_enter Try.func71, Try.ntmps71
    go_wp2_with fail
    go_ret
    exact ⟨by rw [hv.out]; rfl, Below.refl _ _⟩
  rcases Int.lt_or_le c 880 with k12 | k12
  · have e95 : (c == 95) = false := by simp; omega
    have e8204 : (c == 8204) = false := by simp; omega
    have e8205 : (c == 8205) = false := by simp; omega
    have a65 : decide ((65 : Int) ≤ c) = true := by simp; omega
    have b90 : decide (c ≤ (90 : Int)) = false := by simp; omega
    have a97 : decide ((97 : Int) ≤ c) = true := by simp; omega
    have b122 : decide (c ≤ (122 : Int)) = false := by simp; omega
    have a192 : decide ((192 : Int) ≤ c) = true := by simp; omega
    have b214 : decide (c ≤ (214 : Int)) = false := by simp; omega
    have a216 : decide ((216 : Int) ≤ c) = true := by simp; omega
    have b246 : decide (c ≤ (246 : Int)) = false := by simp; omega
    have a248 : decide ((248 : Int) ≤ c) = true := by simp; omega
    have b767 : decide (c ≤ (767 : Int)) = false := by simp; omega
    have a880 : decide ((880 : Int) ≤ c) = false := by simp; omega
    have b893 : decide (c ≤ (893 : Int)) = true := by simp; omega
    have a895 : decide ((895 : Int) ≤ c) = false := by simp; omega
    have b8191 : decide (c ≤ (8191 : Int)) = true := by simp; omega
    have a8304 : decide ((8304 : Int) ≤ c) = false := by simp; omega
    have b8591 : decide (c ≤ (8591 : Int)) = true := by simp; omega
    have a11264 : decide ((11264 : Int) ≤ c) = false := by simp; omega
    have b12271 : decide (c ≤ (12271 : Int)) = true := by simp; omega
    have a12289 : decide ((12289 : Int) ≤ c) = false := by simp; omega
    have b55295 : decide (c ≤ (55295 : Int)) = true := by simp; omega
    have a63744 : decide ((63744 : Int) ≤ c) = false := by simp; omega
    have b64975 : decide (c ≤ (64975 : Int)) = true := by simp; omega
    have a65008 : decide ((65008 : Int) ≤ c) = false := by simp; omega
    have b65533 : decide (c ≤ (65533 : Int)) = true := by simp; omega
    have a65536 : decide ((65536 : Int) ≤ c) = false := by simp; omega
    have b983039 : decide (c ≤ (983039 : Int)) = true := by simp; omega
    have hv : Hid (startB c = false) := by show _ = _; unfold startB; simp; omega
    clear k0 k1 k2 k3 k4 k5 k6 k7 k8 k9 k10 k11 k12
    go_enter Try.func71, Try.ntmps71
    go_wp2_with fail
    go_ret
    exact ⟨by rw [hv.out]; rfl, Below.refl _ _⟩
  rcases Int.lt_or_le c 894 with k13 | k13
  · have e95 : (c == 95) = false := by simp; omega
    have e8204 : (c == 8204) = false := by simp; omega
    have e8205 : (c == 8205) = false := by simp; omega
    have a65 : decide ((65 : Int) ≤ c) = true := by simp; omega
    have b90 : decide (c ≤ (90 : Int)) = false := by simp; omega
    have a97 : decide ((97 : Int) ≤ c) = true := by simp; omega
    have b122 : decide (c ≤ (122 : Int)) = false := by simp; omega
    have a192 : decide ((192 : Int) ≤ c) = true := by simp; omega
    have b214 : decide (c ≤ (214 : Int)) = false := by simp; omega
    have a216 : decide ((216 : Int) ≤ c) = true := by simp; omega
    have b246 : decide (c ≤ (246 : Int)) = false := by simp; omega
    have a248 : decide ((248 : Int) ≤ c) = true := by simp; omega
    have b767 : decide (c ≤ (767 : Int)) = false := by simp; omega
    have a880 : decide ((880 : Int) ≤ c) = true := by simp; omega
    have b893 : decide (c ≤ (893 : Int)) = true := by simp; omega
    have a895 : decide ((895 : Int) ≤ c) = false := by simp; omega
    have b8191 : decide (c ≤ (8191 : Int)) = true := by simp; omega
    have a8304 : decide ((8304 : Int) ≤ c) = false := by simp; omega
    have b8591 : decide (c ≤ (8591 : Int)) = true := by simp; omega
    have a11264 : decide ((11264 : Int) ≤ c) = false := by simp; omega
    have b12271 : decide (c ≤ (12271 : Int)) = true := by simp; omega
    have a12289 : decide ((12289 : Int) ≤ c) = false := by simp; omega
    have b55295 : decide (c ≤ (55295 : Int)) = true := by simp; omega
    have a63744 : decide ((63744 : Int) ≤ c) = false := by simp; omega
    have b64975 : decide (c ≤ (64975 : Int)) = true := by simp; omega
    have a65008 : decide ((65008 : Int) ≤ c) = false := by simp; omega
    have b65533 : decide (c ≤ (65533 : Int)) = true := by simp; omega
    have a65536 : decide ((65536 : Int) ≤ c) = false := by simp; omega
    have b983039 : decide (c ≤ (983039 : Int)) = true := by simp; omega
    have hv : Hid (startB c = true) := by show _ = _; unfold startB; simp; omega
    clear k0 k1 k2 k3 k4 k5 k6 k7 k8 k9 k10 k11 k12 k13
    go_enter Try.func71, Try.ntmps71
    go_wp2_with fail
    go_ret
    exact ⟨by rw [hv.out]; rfl, Below.refl _ _⟩
  rcases Int.lt_or_le c 895 with k14 | k14
  · have e95 : (c == 95) = false := by simp; omega
    have e8204 : (c == 8204) = false := by simp; omega
    have e8205 : (c == 8205) = false := by simp; omega
    have a65 : decide ((65 : Int) ≤ c) = true := by simp; omega
    have b90 : decide (c ≤ (90 : Int)) = false := by simp; omega
    have a97 : decide ((97 : Int) ≤ c) = true := by simp; omega
    have b122 : decide (c ≤ (122 : Int)) = false := by simp; omega
    have a192 : decide ((192 : Int) ≤ c) = true := by simp; omega
    have b214 : decide (c ≤ (214 : Int)) = false := by simp; omega
    have a216 : decide ((216 : Int) ≤ c) = true := by simp; omega
    have b246 : decide (c ≤ (246 : Int)) = false := by simp; omega
    have a248 : decide ((248 : Int) ≤ c) = true := by simp; omega
    have b767 : decide (c ≤ (767 : Int)) = false := by simp; omega
    have a880 : decide ((880 : Int) ≤ c) = true := by simp; omega
    have b893 : decide (c ≤ (893 : Int)) = false := by simp; omega
    have a895 : decide ((895 : Int) ≤ c) = false := by simp; omega
    have b8191 : decide (c ≤ (8191 : Int)) = true := by simp; omega
    have a8304 : decide ((8304 : Int) ≤ c) = false := by simp; omega
    have b8591 : decide (c ≤ (8591 : Int)) = true := by simp; omega
    have a11264 : decide ((11264 : Int) ≤ c) = false := by simp; omega
    have b12271 : decide (c ≤ (12271 : Int)) = true := by simp; omega
    have a12289 : decide ((12289 : Int) ≤ c) = false := by simp; omega
    have b55295 : decide (c ≤ (55295 : Int)) = true := by simp; omega
    have a63744 : decide ((63744 : Int) ≤ c) = false := by simp; omega
    have b64975 : decide (c ≤ (64975 : Int)) = true := by simp; omega
    have a65008 : decide ((65008 : Int) ≤ c) = false := by simp; omega
    have b65533 : decide (c ≤ (65533 : Int)) = true := by simp; omega
    have a65536 : decide ((65536 : Int) ≤ c) = false := by simp; omega
    have b983039 : decide (c ≤ (983039 : Int)) = true := by simp; omega
    have hv : Hid (startB c = false) := by show _ = _; unfold startB; simp; omega
    clear k0 k1 k2 k3 k4 k5 k6 k7 k8 k9 k10 k11 k12 k13 k14
    go_enter Try.func71, Try.ntmps71
    go_wp2_with fail
    go_ret
    exact ⟨by rw [hv.out]; rfl, Below.refl _ _⟩
  rcases Int.lt_or_le c 8192 with k15 | k15
  · have e95 : (c == 95) = false := by simp; omega
    have e8204 : (c == 8204) = false := by simp; omega
    have e8205 : (c == 8205) = false := by simp; omega
    have a65 : decide ((65 : Int) ≤ c) = true := by simp; omega
    have b90 : decide (c ≤ (90 : Int)) = false := by simp; omega
    have a97 : decide ((97 : Int) ≤ c) = true := by simp; omega
    have b122 : decide (c ≤ (122 : Int)) = false := by simp; omega
    have a192 : decide ((192 : Int) ≤ c) = true := by simp; omega
    have b214 : decide (c ≤ (214 : Int)) = false := by simp; omega
    have a216 : decide ((216 : Int) ≤ c) = true := by simp; omega
    have b246 : decide (c ≤ (246 : Int)) = false := by simp; omega
    have a248 : decide ((248 : Int) ≤ c) = true := by simp; omega
    have b767 : decide (c ≤ (767 : Int)) = false := by simp; omega
    have a880 : decide ((880 : Int) ≤ c) = true := by simp; omega
    have b893 : decide (c ≤ (893 : Int)) = false := by simp; omega
    have a895 : decide ((895 : Int) ≤ c) = true := by simp; omega
    have b8191 : decide (c ≤ (8191 : Int)) = true := by simp; omega
    have a8304 : decide ((8304 : Int) ≤ c) = false := by simp; omega
    have b8591 : decide (c ≤ (8591 : Int)) = true := by simp; omega
    have a11264 : decide ((11264 : Int) ≤ c) = false := by simp; omega
    have b12271 : decide (c ≤ (12271 : Int)) = true := by simp; omega
    have a12289 : decide ((12289 : Int) ≤ c) = false := by simp; omega
    have b55295 : decide (c ≤ (55295 : Int)) = true := by simp; omega
    have a63744 : decide ((63744 : Int) ≤ c) = false := by simp; omega
    have b64975 : decide (c ≤ (64975 : Int)) = true := by simp; omega
    have a65008 : decide ((65008 : Int) ≤ c) = false := by simp; omega
    have b65533 : decide (c ≤ (65533 : Int)) = true := by simp; omega
    have a65536 : decide ((65536 : Int) ≤ c) = false := by simp; omega
    have b983039 : decide (c ≤ (983039 : Int)) = true := by simp; omega
    have hv : Hid (startB c = true) := by show _ = _; unfold startB; simp; omega
    clear k0 k1 k2 k3 k4 k5 k6 k7 k8 k9 k10 k11 k12 k13 k14 k15
    go_enter Try.func71, Try.ntmps71
    go_wp2_with fail
    go_ret
    exact ⟨by rw [hv.out]; rfl, Below.refl _ _⟩
  rcases Int.lt_or_le c 8204 with k16 | k16
  · have e95 : (c == 95) = false := by simp; omega
    have e8204 : (c == 8204) = false := by simp; omega
    have e8205 : (c == 8205) = false := by simp; omega
    have a65 : decide ((65 : Int) ≤ c) = true := by simp; omega
    have b90 : decide (c ≤ (90 : Int)) = false := by simp; omega
    have a97 : decide ((97 : Int) ≤ c) = true := by simp; omega
    have b122 : decide (c ≤ (122 : Int)) = false := by simp; omega
    have a192 : decide ((192 : Int) ≤ c) = true := by simp; omega
    have b214 : decide (c ≤ (214 : Int)) = false := by simp; omega
    have a216 : decide ((216 : Int) ≤ c) = true := by simp; omega
    have b246 : decide (c ≤ (246 : Int)) = false := by simp; omega
    have a248 : decide ((248 : Int) ≤ c) = true := by simp; omega
    have b767 : decide (c ≤ (767 : Int)) = false := by simp; omega
    have a880 : decide ((880 : Int) ≤ c) = true := by simp; omega
    have b893 : decide (c ≤ (893 : Int)) = false := by simp; omega
    have a895 : decide ((895 : Int) ≤ c) = true := by simp; omega
    have b8191 : decide (c ≤ (8191 : Int)) = false := by simp; omega
    have a8304 : decide ((8304 : Int) ≤ c) = false := by simp; omega
    have b8591 : decide (c ≤ (8591 : Int)) = true := by simp; omega
    have a11264 : decide ((11264 : Int) ≤ c) = false := by simp; omega
    have b12271 : decide (c ≤ (12271 : Int)) = true := by simp; omega
    have a12289 : decide ((12289 : Int) ≤ c) = false := by simp; omega
    have b55295 : decide (c ≤ (55295 : Int)) = true := by simp; omega
    have a63744 : decide ((63744 : Int) ≤ c) = false := by simp; omega
    have b64975 : decide (c ≤ (64975 : Int)) = true := by simp; omega
    have a65008 : decide ((65008 : Int) ≤ c) = false := by simp; omega
    have b65533 : decide (c ≤ (65533 : Int)) = true := by simp; omega
    have a65536 : decide ((65536 : Int) ≤ c) = false := by simp; omega
    have b983039 : decide (c ≤ (983039 : Int)) = true := by simp; omega
    have hv : Hid (startB c = false) := by show _ = _; unfold startB; simp; omega
    clear k0 k1 k2 k3 k4 k5 k6 k7 k8 k9 k10 k11 k12 k13 k14 k15 k16
    go_enter Try.func71, Try.ntmps71
    go_wp2_with fail
    go_ret
    exact ⟨by rw [hv.out]; rfl, Below.refl _ _⟩
  rcases Int.lt_or_le c 8205 with k17 | k17
  · have e95 : (c == 95) = false := by simp; omega
    have e8204 : (c == 8204) = true := by simp; omega
    have e8205 : (c == 8205) = false := by simp; omega
    have a65 : decide ((65 : Int) ≤ c) = true := by simp; omega
    have b90 : decide (c ≤ (90 : Int)) = false := by simp; omega
    have a97 : decide ((97 : Int) ≤ c) = true := by simp; omega
    have b122 : decide (c ≤ (122 : Int)) = false := by simp; omega
    have a192 : decide ((192 : Int) ≤ c) = true := by simp; omega
    have b214 : decide (c ≤ (214 : Int)) = false := by simp; omega
    have a216 : decide ((216 : Int) ≤ c) = true := by simp; omega
    have b246 : decide (c ≤ (246 : Int)) = false := by simp; omega
    have a248 : decide ((248 : Int) ≤ c) = true := by simp; omega
    have b767 : decide (c ≤ (767 : Int)) = false := by simp; omega
    have a880 : decide ((880 : Int) ≤ c) = true := by simp; omega
    have b893 : decide (c ≤ (893 : Int)) = false := by simp; omega
    have a895 : decide ((895 : Int) ≤ c) = true := by simp; omega
    have b8191 : decide (c ≤ (8191 : Int)) = false := by simp; omega
    have a8304 : decide ((8304 : Int) ≤ c) = false := by simp; omega
    have b8591 : decide (c ≤ (8591 : Int)) = true := by simp; omega
    have a11264 : decide ((11264 : Int) ≤ c) = false := by simp; omega
    have b12271 : decide (c ≤ (12271 : Int)) = true := by simp; omega
    have a12289 : decide ((12289 : Int) ≤ c) = false := by simp; omega
    have b55295 : decide (c ≤ (55295 : Int)) = true := by simp; omega
    have a63744 : decide ((63744 : Int) ≤ c) = false := by simp; omega
    have b64975 : decide (c ≤ (64975 : Int)) = true := by simp; omega
    have a65008 : decide ((65008 : Int) ≤ c) = false := by simp; omega
    have b65533 : decide (c ≤ (65533 : Int)) = true := by simp; omega
    have a65536 : decide ((65536 : Int) ≤ c) = false := by simp; omega
    have b983039 : decide (c ≤ (983039 : Int)) = true := by simp; omega
    have hv : Hid (startB c = true) := by show _ = _; unfold startB; simp; omega
    clear k0 k1 k2 k3 k4 k5 k6 k7 k8 k9 k10 k11 k12 k13 k14 k15 k16 k17
    go_enter Try.func71, Try.ntmps71
    go_wp2_with fail
    go_ret
    exact ⟨by rw [hv.out]; rfl, Below.refl _ _⟩
  rcases Int.lt_or_le c 8206 with k18 | k18
  · have e95 : (c == 95) = false := by simp; omega
    have e8204 : (c == 8204) = false := by simp; omega
    have e8205 : (c == 8205) = true := by simp; omega
    have a65 : decide ((65 : Int) ≤ c) = true := by simp; omega
    have b90 : decide (c ≤ (90 : Int)) = false := by simp; omega
    have a97 : decide ((97 : Int) ≤ c) = true := by simp; omega
    have b122 : decide (c ≤ (122 : Int)) = false := by simp; omega
    have a192 : decide ((192 : Int) ≤ c) = true := by simp; omega
    have b214 : decide (c ≤ (214 : Int)) = false := by simp; omega
    have a216 : decide ((216 : Int) ≤ c) = true := by simp; omega
    have b246 : decide (c ≤ (246 : Int)) = false := by simp; omega
    have a248 : decide ((248 : Int) ≤ c) = true := by simp; omega
    have b767 : decide (c ≤ (767 : Int)) = false := by simp; omega
    have a880 : decide ((880 : Int) ≤ c) = true := by simp; omega
    have b893 : decide (c ≤ (893 : Int)) = false := by simp; omega
    have a895 : decide ((895 : Int) ≤ c) = true := by simp; omega
    have b8191 : decide (c ≤ (8191 : Int)) = false := by simp; omega
    have a8304 : decide ((8304 : Int) ≤ c) = false := by simp; omega
    have b8591 : decide (c ≤ (8591 : Int)) = true := by simp; omega
    have a11264 : decide ((11264 : Int) ≤ c) = false := by simp; omega
    have b12271 : decide (c ≤ (12271 : Int)) = true := by simp; omega
    have a12289 : decide ((12289 : Int) ≤ c) = false := by simp; omega
    have b55295 : decide (c ≤ (55295 : Int)) = true := by simp; omega
    have a63744 : decide ((63744 : Int) ≤ c) = false := by simp; omega
    have b64975 : decide (c ≤ (64975 : Int)) = true := by simp; omega
    have a65008 : decide ((65008 : Int) ≤ c) = false := by simp; omega
    have b65533 : decide (c ≤ (65533 : Int)) = true := by simp; omega
    have a65536 : decide ((65536 : Int) ≤ c) = false := by simp; omega
    have b983039 : decide (c ≤ (983039 : Int)) = true := by simp; omega
    have hv : Hid (startB c = true) := by show _ = _; unfold startB; simp; omega
    clear k0 k1 k2 k3 k4 k5 k6 k7 k8 k9 k10 k11 k12 k13 k14 k15 k16 k17 k18
    go_enter Try.func71, Try.ntmps71
    go_wp2_with fail
    go_ret
    exact ⟨by rw [hv.out]; rfl, Below.refl _ _⟩
  rcases Int.lt_or_le c 8304 with k19 | k19
  · have e95 : (c == 95) = false := by simp; omega
    have e8204 : (c == 8204) = false := by simp; omega
    have e8205 : (c == 8205) = false := by simp; omega
    have a65 : decide ((65 : Int) ≤ c) = true := by simp; omega
    have b90 : decide (c ≤ (90 : Int)) = false := by simp; omega
    have a97 : decide ((97 : Int) ≤ c) = true := by simp; omega
    have b122 : decide (c ≤ (122 : Int)) = false := by simp; omega
    have a192 : decide ((192 : Int) ≤ c) = true := by simp; omega
    have b214 : decide (c ≤ (214 : Int)) = false := by simp; omega
    have a216 : decide ((216 : Int) ≤ c) = true := by simp; omega
    have b246 : decide (c ≤ (246 : Int)) = false := by simp; omega
    have a248 : decide ((248 : Int) ≤ c) = true := by simp; omega
    have b767 : decide (c ≤ (767 : Int)) = false := by simp; omega
    have a880 : decide ((880 : Int) ≤ c) = true := by simp; omega
    have b893 : decide (c ≤ (893 : Int)) = false := by simp; omega
    have a895 : decide ((895 : Int) ≤ c) = true := by simp; omega
    have b8191 : decide (c ≤ (8191 : Int)) = false := by simp; omega
    have a8304 : decide ((8304 : Int) ≤ c) = false := by simp; omega
    have b8591 : decide (c ≤ (8591 : Int)) = true := by simp; omega
    have a11264 : decide ((11264 : Int) ≤ c) = false := by simp; omega
    have b12271 : decide (c ≤ (12271 : Int)) = true := by simp; omega
    have a12289 : decide ((12289 : Int) ≤ c) = false := by simp; omega
    have b55295 : decide (c ≤ (55295 : Int)) = true := by simp; omega
    have a63744 : decide ((63744 : Int) ≤ c) = false := by simp; omega
    have b64975 : decide (c ≤ (64975 : Int)) = true := by simp; omega
    have a65008 : decide ((65008 : Int) ≤ c) = false := by simp; omega
    have b65533 : decide (c ≤ (65533 : Int)) = true := by simp; omega
    have a65536 : decide ((65536 : Int) ≤ c) = false := by simp; omega
    have b983039 : decide (c ≤ (983039 : Int)) = true := by simp; omega
    have hv : Hid (startB c = false) := by show _ = _; unfold startB; simp; omega
    clear k0 k1 k2 k3 k4 k5 k6 k7 k8 k9 k10 k11 k12 k13 k14 k15 k16 k17 k18 k19
    go_enter Try.func71, Try.ntmps71
    go_wp2_with fail
    go_ret
    exact ⟨by rw [hv.out]; rfl, Below.refl _ _⟩
  rcases Int.lt_or_le c 8592 with k20 | k20
  · have e95 : (c == 95) = false := by simp; omega
    have e8204 : (c == 8204) = false := by simp; omega
    have e8205 : (c == 8205) = false := by simp; omega
    have a65 : decide ((65 : Int) ≤ c) = true := by simp; omega
    have b90 : decide (c ≤ (90 : Int)) = false := by simp; omega
    have a97 : decide ((97 : Int) ≤ c) = true := by simp; omega
    have b122 : decide (c ≤ (122 : Int)) = false := by simp; omega
    have a192 : decide ((192 : Int) ≤ c) = true := by simp; omega
    have b214 : decide (c ≤ (214 : Int)) = false := by simp; omega
    have a216 : decide ((216 : Int) ≤ c) = true := by simp; omega
    have b246 : decide (c ≤ (246 : Int)) = false := by simp; omega
    have a248 : decide ((248 : Int) ≤ c) = true := by simp; omega
    have b767 : decide (c ≤ (767 : Int)) = false := by simp; omega
    have a880 : decide ((880 : Int) ≤ c) = true := by simp; omega
    have b893 : decide (c ≤ (893 : Int)) = false := by simp; omega
    have a895 : decide ((895 : Int) ≤ c) = true := by simp; omega
    have b8191 : decide (c ≤ (8191 : Int)) = false := by simp; omega
    have a8304 : decide ((8304 : Int) ≤ c) = true := by simp; omega
    have b8591 : decide (c ≤ (8591 : Int)) = true := by simp; omega
    have a11264 : decide ((11264 : Int) ≤ c) = false := by simp; omega
    have b12271 : decide (c ≤ (12271 : Int)) = true := by simp; omega
    have a12289 : decide ((12289 : Int) ≤ c) = false := by simp; omega
    have b55295 : decide (c ≤ (55295 : Int)) = true := by simp; omega
    have a63744 : decide ((63744 : Int) ≤ c) = false := by simp; omega
    have b64975 : decide (c ≤ (64975 : Int)) = true := by simp; omega
    have a65008 : decide ((65008 : Int) ≤ c) = false := by simp; omega
    have b65533 : decide (c ≤ (65533 : Int)) = true := by simp; omega
    have a65536 : decide ((65536 : Int) ≤ c) = false := by simp; omega
    have b983039 : decide (c ≤ (983039 : Int)) = true := by simp; omega
    have hv : Hid (startB c = true) := by show _ = _; unfold startB; simp; omega
    clear k0 k1 k2 k3 k4 k5 k6 k7 k8 k9 k10 k11 k12 k13 k14 k15 k16 k17 k18 k19 k20
    go_enter Try.func71, Try.ntmps71
    go_wp2_with fail
    go_ret
    exact ⟨by rw [hv.out]; rfl, Below.refl _ _⟩
  rcases Int.lt_or_le c 11264 with k21 | k21
  · have e95 : (c == 95) = false := by simp; omega
    have e8204 : (c == 8204) = false := by simp; omega
    have e8205 : (c == 8205) = false := by simp; omega
    have a65 : decide ((65 : Int) ≤ c) = true := by simp; omega
    have b90 : decide (c ≤ (90 : Int)) = false := by simp; omega
    have a97 : decide ((97 : Int) ≤ c) = true := by simp; omega
    have b122 : decide (c ≤ (122 : Int)) = false := by simp; omega
    have a192 : decide ((192 : Int) ≤ c) = true := by simp; omega
    have b214 : decide (c ≤ (214 : Int)) = false := by simp; omega
    have a216 : decide ((216 : Int) ≤ c) = true := by simp; omega
    have b246 : decide (c ≤ (246 : Int)) = false := by simp; omega
    have a248 : decide ((248 : Int) ≤ c) = true := by simp; omega
    have b767 : decide (c ≤ (767 : Int)) = false := by simp; omega
    have a880 : decide ((880 : Int) ≤ c) = true := by simp; omega
    have b893 : decide (c ≤ (893 : Int)) = false := by simp; omega
    have a895 : decide ((895 : Int) ≤ c) = true := by simp; omega
    have b8191 : decide (c ≤ (8191 : Int)) = false := by simp; omega
    have a8304 : decide ((8304 : Int) ≤ c) = true := by simp; omega
    have b8591 : decide (c ≤ (8591 : Int)) = false := by simp; omega
    have a11264 : decide ((11264 : Int) ≤ c) = false := by simp; omega
    have b12271 : decide (c ≤ (12271 : Int)) = true := by simp; omega
    have a12289 : decide ((12289 : Int) ≤ c) = false := by simp; omega
    have b55295 : decide (c ≤ (55295 : Int)) = true := by simp; omega
    have a63744 : decide ((63744 : Int) ≤ c) = false := by simp; omega
    have b64975 : decide (c ≤ (64975 : Int)) = true := by simp; omega
    have a65008 : decide ((65008 : Int) ≤ c) = false := by simp; omega
    have b65533 : decide (c ≤ (65533 : Int)) = true := by simp; omega
    have a65536 : decide ((65536 : Int) ≤ c) = false := by simp; omega
    have b983039 : decide (c ≤ (983039 : Int)) = true := by simp; omega
    have hv : Hid (startB c = false) := by show _ = _; unfold startB; simp; omega
    clear k0 k1 k2 k3 k4 k5 k6 k7 k8 k9 k10 k11 k12 k13 k14 k15 k16 k17 k18 k19 k20 k21
    go_enter Try.func71, Try.ntmps71
    go_wp2_with fail
    go_ret
    exact ⟨by rw [hv.out]; rfl, Below.refl _ _⟩
  rcases Int.lt_or_le c 12272 with k22 | k22
  · have e95 : (c == 95) = false := by simp; omega
    have e8204 : (c == 8204) = false := by simp; omega
    have e8205 : (c == 8205) = false := by simp; omega
    have a65 : decide ((65 : Int) ≤ c) = true := by simp; omega
    have b90 : decide (c ≤ (90 : Int)) = false := by simp; omega
    have a97 : decide ((97 : Int) ≤ c) = true := by simp; omega
    have b122 : decide (c ≤ (122 : Int)) = false := by simp; omega
    have a192 : decide ((192 : Int) ≤ c) = true := by simp; omega
    have b214 : decide (c ≤ (214 : Int)) = false := by simp; omega
    have a216 : decide ((216 : Int) ≤ c) = true := by simp; omega
    have b246 : decide (c ≤ (246 : Int)) = false := by simp; omega
    have a248 : decide ((248 : Int) ≤ c) = true := by simp; omega
    have b767 : decide (c ≤ (767 : Int)) = false := by simp; omega
    have a880 : decide ((880 : Int) ≤ c) = true := by simp; omega
    have b893 : decide (c ≤ (893 : Int)) = false := by simp; omega
    have a895 : decide ((895 : Int) ≤ c) = true := by simp; omega
    have b8191 : decide (c ≤ (8191 : Int)) = false := by simp; omega
    have a8304 : decide ((8304 : Int) ≤ c) = true := by simp; omega
    have b8591 : decide (c ≤ (8591 : Int)) = false := by simp; omega
    have a11264 : decide ((11264 : Int) ≤ c) = true := by simp; omega
    have b12271 : decide (c ≤ (12271 : Int)) = true := by simp; omega
    have a12289 : decide ((12289 : Int) ≤ c) = false := by simp; omega
    have b55295 : decide (c ≤ (55295 : Int)) = true := by simp; omega
    have a63744 : decide ((63744 : Int) ≤ c) = false := by simp; omega
    have b64975 : decide (c ≤ (64975 : Int)) = true := by simp; omega
    have a65008 : decide ((65008 : Int) ≤ c) = false := by simp; omega
    have b65533 : decide (c ≤ (65533 : Int)) = true := by simp; omega
    have a65536 : decide ((65536 : Int) ≤ c) = false := by simp; omega
    have b983039 : decide (c ≤ (983039 : Int)) = true := by simp; omega
    have hv : Hid (startB c = true) := by show _ = _; unfold startB; simp; omega
    clear k0 k1 k2 k3 k4 k5 k6 k7 k8 k9 k10 k11 k12 k13 k14 k15 k16 k17 k18 k19 k20 k21 k22
    go_enter Try.func71, Try.ntmps71
    go_wp2_with fail
    go_ret
    exact ⟨by rw [hv.out]; rfl, Below.refl _ _⟩
  rcases Int.lt_or_le c 12289 with k23 | k23
  · have e95 : (c == 95) = false := by simp; omega
    have e8204 : (c == 8204) = false := by simp; omega
    have e8205 : (c == 8205) = false := by simp; omega
    have a65 : decide ((65 : Int) ≤ c) = true := by simp; omega
    have b90 : decide (c ≤ (90 : Int)) = false := by simp; omega
    have a97 : decide ((97 : Int) ≤ c) = true := by simp; omega
    have b122 : decide (c ≤ (122 : Int)) = false := by simp; omega
    have a192 : decide ((192 : Int) ≤ c) = true := by simp; omega
    have b214 : decide (c ≤ (214 : Int)) = false := by simp; omega
    have a216 : decide ((216 : Int) ≤ c) = true := by simp; omega
    have b246 : decide (c ≤ (246 : Int)) = false := by simp; omega
    have a248 : decide ((248 : Int) ≤ c) = true := by simp; omega
    have b767 : decide (c ≤ (767 : Int)) = false := by simp; omega
    have a880 : decide ((880 : Int) ≤ c) = true := by simp; omega
    have b893 : decide (c ≤ (893 : Int)) = false := by simp; omega
    have a895 : decide ((895 : Int) ≤ c) = true := by simp; omega
    have b8191 : decide (c ≤ (8191 : Int)) = false := by simp; omega
    have a8304 : decide ((8304 : Int) ≤ c) = true := by simp; omega
    have b8591 : decide (c ≤ (8591 : Int)) = false := by simp; omega
    have a11264 : decide ((11264 : Int) ≤ c) = true := by simp; omega
    have b12271 : decide (c ≤ (12271 : Int)) = false := by simp; omega
    have a12289 : decide ((12289 : Int) ≤ c) = false := by simp; omega
    have b55295 : decide (c ≤ (55295 : Int)) = true := by simp; omega
    have a63744 : decide ((63744 : Int) ≤ c) = false := by simp; omega
    have b64975 : decide (c ≤ (64975 : Int)) = true := by simp; omega
    have a65008 : decide ((65008 : Int) ≤ c) = false := by simp; omega
    have b65533 : decide (c ≤ (65533 : Int)) = true := by simp; omega
    have a65536 : decide ((65536 : Int) ≤ c) = false := by simp; omega
    have b983039 : decide (c ≤ (983039 : Int)) = true := by simp; omega
    have hv : Hid (startB c = false) := by show _ = _; unfold startB; simp; omega
    clear k0 k1 k2 k3 k4 k5 k6 k7 k8 k9 k10 k11 k12 k13 k14 k15 k16 k17 k18 k19 k20 k21 k22 k23
    go_enter Try.func71, Try.ntmps71
    go_wp2_with fail
    go_ret
    exact ⟨by rw [hv.out]; rfl, Below.refl _ _⟩
  rcases Int.lt_or_le c 55296 with k24 | k24
  · have e95 : (c == 95) = false := by simp; omega
    have e8204 : (c == 8204) = false := by simp; omega
    have e8205 : (c == 8205) = false := by simp; omega
    have a65 : decide ((65 : Int) ≤ c) = true := by simp; omega
    have b90 : decide (c ≤ (90 : Int)) = false := by simp; omega
    have a97 : decide ((97 : Int) ≤ c) = true := by simp; omega
    have b122 : decide (c ≤ (122 : Int)) = false := by simp; omega
    have a192 : decide ((192 : Int) ≤ c) = true := by simp; omega
    have b214 : decide (c ≤ (214 : Int)) = false := by simp; omega
    have a216 : decide ((216 : Int) ≤ c) = true := by simp; omega
    have b246 : decide (c ≤ (246 : Int)) = false := by simp; omega
    have a248 : decide ((248 : Int) ≤ c) = true := by simp; omega
    have b767 : decide (c ≤ (767 : Int)) = false := by simp; omega
    have a880 : decide ((880 : Int) ≤ c) = true := by simp; omega
    have b893 : decide (c ≤ (893 : Int)) = false := by simp; omega
    have a895 : decide ((895 : Int) ≤ c) = true := by simp; omega
    have b8191 : decide (c ≤ (8191 : Int)) = false := by simp; omega
    have a8304 : decide ((8304 : Int) ≤ c) = true := by simp; omega
    have b8591 : decide (c ≤ (8591 : Int)) = false := by simp; omega
    have a11264 : decide ((11264 : Int) ≤ c) = true := by simp; omega
    have b12271 : decide (c ≤ (12271 : Int)) = false := by simp; omega
    have a12289 : decide ((12289 : Int) ≤ c) = true := by simp; omega
    have b55295 : decide (c ≤ (55295 : Int)) = true := by simp; omega
    have a63744 : decide ((63744 : Int) ≤ c) = false := by simp; omega
    have b64975 : decide (c ≤ (64975 : Int)) = true := by simp; omega
    have a65008 : decide ((65008 : Int) ≤ c) = false := by simp; omega
    have b65533 : decide (c ≤ (65533 : Int)) = true := by simp; omega
    have a65536 : decide ((65536 : Int) ≤ c) = false := by simp; omega
    have b983039 : decide (c ≤ (983039 : Int)) = true := by simp; omega
    have hv : Hid (startB c = true) := by show _ = _; unfold startB; simp; omega
    clear k0 k1 k2 k3 k4 k5 k6 k7 k8 k9 k10 k11 k12 k13 k14 k15 k16 k17 k18 k19 k20 k21 k22 k23 k24
    go_enter Try.func71, Try.ntmps71
    go_wp2_with fail
    go_ret
    exact ⟨by rw [hv.out]; rfl, Below.refl _ _⟩
  rcases Int.lt_or_le c 63744 with k25 | k25
  · have e95 : (c == 95) = false := by simp; omega
    have e8204 : (c == 8204) = false := by simp; omega
    have e8205 : (c == 8205) = false := by simp; omega
    have a65 : decide ((65 : Int) ≤ c) = true := by simp; omega
    have b90 : decide (c ≤ (90 : Int)) = false := by simp; omega
    have a97 : decide ((97 : Int) ≤ c) = true := by simp; omega
    have b122 : decide (c ≤ (122 : Int)) = false := by simp; omega
    have a192 : decide ((192 : Int) ≤ c) = true := by simp; omega
    have b214 : decide (c ≤ (214 : Int)) = false := by simp; omega
    have a216 : decide ((216 : Int) ≤ c) = true := by simp; omega
    have b246 : decide (c ≤ (246 : Int)) = false := by simp; omega
    have a248 : decide ((248 : Int) ≤ c) = true := by simp; omega
    have b767 : decide (c ≤ (767 : Int)) = false := by simp; omega
    have a880 : decide ((880 : Int) ≤ c) = true := by simp; omega
    have b893 : decide (c ≤ (893 : Int)) = false := by simp; omega
    have a895 : decide ((895 : Int) ≤ c) = true := by simp; omega
    have b8191 : decide (c ≤ (8191 : Int)) = false := by simp; omega
    have a8304 : decide ((8304 : Int) ≤ c) = true := by simp; omega
    have b8591 : decide (c ≤ (8591 : Int)) = false := by simp; omega
    have a11264 : decide ((11264 : Int) ≤ c) = true := by simp; omega
    have b12271 : decide (c ≤ (12271 : Int)) = false := by simp; omega
    have a12289 : decide ((12289 : Int) ≤ c) = true := by simp; omega
    have b55295 : decide (c ≤ (55295 : Int)) = false := by simp; omega
    have a63744 : decide ((63744 : Int) ≤ c) = false := by simp; omega
    have b64975 : decide (c ≤ (64975 : Int)) = true := by simp; omega
    have a65008 : decide ((65008 : Int) ≤ c) = false := by simp; omega
    have b65533 : decide (c ≤ (65533 : Int)) = true := by simp; omega
    have a65536 : decide ((65536 : Int) ≤ c) = false := by simp; omega
    have b983039 : decide (c ≤ (983039 : Int)) = true := by simp; omega
    have hv : Hid (startB c = false) := by show _ = _; unfold startB; simp; omega
    clear k0 k1 k2 k3 k4 k5 k6 k7 k8 k9 k10 k11 k12 k13 k14 k15 k16 k17 k18 k19 k20 k21 k22 k23 k24 k25
    go_enter Try.func71, Try.ntmps71
    go_wp2_with fail
    go_ret
    exact ⟨by rw [hv.out]; rfl, Below.refl _ _⟩
  rcases Int.lt_or_le c 64976 with k26 | k26
  · have e95 : (c == 95) = false := by simp; omega
    have e8204 : (c == 8204) = false := by simp; omega
    have e8205 : (c == 8205) = false := by simp; omega
    have a65 : decide ((65 : Int) ≤ c) = true := by simp; omega
    have b90 : decide (c ≤ (90 : Int)) = false := by simp; omega
    have a97 : decide ((97 : Int) ≤ c) = true := by simp; omega
    have b122 : decide (c ≤ (122 : Int)) = false := by simp; omega
    have a192 : decide ((192 : Int) ≤ c) = true := by simp; omega
    have b214 : decide (c ≤ (214 : Int)) = false := by simp; omega
    have a216 : decide ((216 : Int) ≤ c) = true := by simp; omega
    have b246 : decide (c ≤ (246 : Int)) = false := by simp; omega
    have a248 : decide ((248 : Int) ≤ c) = true := by simp; omega
    have b767 : decide (c ≤ (767 : Int)) = false := by simp; omega
    have a880 : decide ((880 : Int) ≤ c) = true := by simp; omega
    have b893 : decide (c ≤ (893 : Int)) = false := by simp; omega
    have a895 : decide ((895 : Int) ≤ c) = true := by simp; omega
    have b8191 : decide (c ≤ (8191 : Int)) = false := by simp; omega
    have a8304 : decide ((8304 : Int) ≤ c) = true := by simp; omega
    have b8591 : decide (c ≤ (8591 : Int)) = false := by simp; omega
    have a11264 : decide ((11264 : Int) ≤ c) = true := by simp; omega
    have b12271 : decide (c ≤ (12271 : Int)) = false := by simp; omega
    have a12289 : decide ((12289 : Int) ≤ c) = true := by simp; omega
    have b55295 : decide (c ≤ (55295 : Int)) = false := by simp; omega
    have a63744 : decide ((63744 : Int) ≤ c) = true := by simp; omega
    have b64975 : decide (c ≤ (64975 : Int)) = true := by simp; omega
    have a65008 : decide ((65008 : Int) ≤ c) = false := by simp; omega
    have b65533 : decide (c ≤ (65533 : Int)) = true := by simp; omega
    have a65536 : decide ((65536 : Int) ≤ c) = false := by simp; omega
    have b983039 : decide (c ≤ (983039 : Int)) = true := by simp; omega
    have hv : Hid (startB c = true) := by show _ = _; unfold startB; simp; omega
    clear k0 k1 k2 k3 k4 k5 k6 k7 k8 k9 k10 k11 k12 k13 k14 k15 k16 k17 k18 k19 k20 k21 k22 k23 k24 k25 k26
    go_enter Try.func71, Try.ntmps71
    go_wp2_with fail
    go_ret
    exact ⟨by rw [hv.out]; rfl, Below.refl _ _⟩
  rcases Int.lt_or_le c 65008 with k27 | k27
  · have e95 : (c == 95) = false := by simp; omega
    have e8204 : (c == 8204) = false := by simp; omega
    have e8205 : (c == 8205) = false := by simp; omega
    have a65 : decide ((65 : Int) ≤ c) = true := by simp; omega
    have b90 : decide (c ≤ (90 : Int)) = false := by simp; omega
    have a97 : decide ((97 : Int) ≤ c) = true := by simp; omega
    have b122 : decide (c ≤ (122 : Int)) = false := by simp; omega
    have a192 : decide ((192 : Int) ≤ c) = true := by simp; omega
    have b214 : decide (c ≤ (214 : Int)) = false := by simp; omega
    have a216 : decide ((216 : Int) ≤ c) = true := by simp; omega
    have b246 : decide (c ≤ (246 : Int)) = false := by simp; omega
    have a248 : decide ((248 : Int) ≤ c) = true := by simp; omega
    have b767 : decide (c ≤ (767 : Int)) = false := by simp; omega
    have a880 : decide ((880 : Int) ≤ c) = true := by simp; omega
    have b893 : decide (c ≤ (893 : Int)) = false := by simp; omega
    have a895 : decide ((895 : Int) ≤ c) = true := by simp; omega
    have b8191 : decide (c ≤ (8191 : Int)) = false := by simp; omega
    have a8304 : decide ((8304 : Int) ≤ c) = true := by simp; omega
    have b8591 : decide (c ≤ (8591 : Int)) = false := by simp; omega
    have a11264 : decide ((11264 : Int) ≤ c) = true := by simp; omega
    have b12271 : decide (c ≤ (12271 : Int)) = false := by simp; omega
    have a12289 : decide ((12289 : Int) ≤ c) = true := by simp; omega
    have b55295 : decide (c ≤ (55295 : Int)) = false := by simp; omega
    have a63744 : decide ((63744 : Int) ≤ c) = true := by simp; omega
    have b64975 : decide (c ≤ (64975 : Int)) = false := by simp; omega
    have a65008 : decide ((65008 : Int) ≤ c) = false := by simp; omega
    have b65533 : decide (c ≤ (65533 : Int)) = true := by simp; omega
    have a65536 : decide ((65536 : Int) ≤ c) = false := by simp; omega
    have b983039 : decide (c ≤ (983039 : Int)) = true := by simp; omega
    have hv : Hid (startB c = false) := by show _ = _; unfold startB; simp; omega
    clear k0 k1 k2 k3 k4 k5 k6 k7 k8 k9 k10 k11 k12 k13 k14 k15 k16 k17 k18 k19 k20 k21 k22 k23 k24 k25 k26 k27
    go_enter Try.func71, Try.ntmps71
    go_wp2_with fail
    go_ret
    exact ⟨by rw [hv.out]; rfl, Below.refl _ _⟩
  rcases Int.lt_or_le c 65534 with k28 | k28
  · have e95 : (c == 95) = false := by simp; omega
    have e8204 : (c == 8204) = false := by simp; omega
    have e8205 : (c == 8205) = false := by simp; omega
    have a65 : decide ((65 : Int) ≤ c) = true := by simp; omega
    have b90 : decide (c ≤ (90 : Int)) = false := by simp; omega
    have a97 : decide ((97 : Int) ≤ c) = true := by simp; omega
    have b122 : decide (c ≤ (122 : Int)) = false := by simp; omega
    have a192 : decide ((192 : Int) ≤ c) = true := by simp; omega
    have b214 : decide (c ≤ (214 : Int)) = false := by simp; omega
    have a216 : decide ((216 : Int) ≤ c) = true := by simp; omega
    have b246 : decide (c ≤ (246 : Int)) = false := by simp; omega
    have a248 : decide ((248 : Int) ≤ c) = true := by simp; omega
    have b767 : decide (c ≤ (767 : Int)) = false := by simp; omega
    have a880 : decide ((880 : Int) ≤ c) = true := by simp; omega
    have b893 : decide (c ≤ (893 : Int)) = false := by simp; omega
    have a895 : decide ((895 : Int) ≤ c) = true := by simp; omega
    have b8191 : decide (c ≤ (8191 : Int)) = false := by simp; omega
    have a8304 : decide ((8304 : Int) ≤ c) = true := by simp; omega
    have b8591 : decide (c ≤ (8591 : Int)) = false := by simp; omega
    have a11264 : decide ((11264 : Int) ≤ c) = true := by simp; omega
    have b12271 : decide (c ≤ (12271 : Int)) = false := by simp; omega
    have a12289 : decide ((12289 : Int) ≤ c) = true := by simp; omega
    have b55295 : decide (c ≤ (55295 : Int)) = false := by simp; omega
    have a63744 : decide ((63744 : Int) ≤ c) = true := by simp; omega
    have b64975 : decide (c ≤ (64975 : Int)) = false := by simp; omega
    have a65008 : decide ((65008 : Int) ≤ c) = true := by simp; omega
    have b65533 : decide (c ≤ (65533 : Int)) = true := by simp; omega
    have a65536 : decide ((65536 : Int) ≤ c) = false := by simp; omega
    have b983039 : decide (c ≤ (983039 : Int)) = true := by simp; omega
    have hv : Hid (startB c = true) := by show _ = _; unfold startB; simp; omega
    clear k0 k1 k2 k3 k4 k5 k6 k7 k8 k9 k10 k11 k12 k13 k14 k15 k16 k17 k18 k19 k20 k21 k22 k23 k24 k25 k26 k27 k28
    go_enter Try.func71, Try.ntmps71
    go_wp2_with fail
    go_ret
    exact ⟨by rw [hv.out]; rfl, Below.refl _ _⟩
  rcases Int.lt_or_le c 65536 with k29 | k29
  · have e95 : (c == 95) = false := by simp; omega
    have e8204 : (c == 8204) = false := by simp; omega
    have e8205 : (c == 8205) = false := by simp; omega
    have a65 : decide ((65 : Int) ≤ c) = true := by simp; omega
    have b90 : decide (c ≤ (90 : Int)) = false := by simp; omega
    have a97 : decide ((97 : Int) ≤ c) = true := by simp; omega
    have b122 : decide (c ≤ (122 : Int)) = false := by simp; omega
    have a192 : decide ((192 : Int) ≤ c) = true := by simp; omega
    have b214 : decide (c ≤ (214 : Int)) = false := by simp; omega
    have a216 : decide ((216 : Int) ≤ c) = true := by simp; omega
    have b246 : decide (c ≤ (246 : Int)) = false := by simp; omega
    have a248 : decide ((248 : Int) ≤ c) = true := by simp; omega
    have b767 : decide (c ≤ (767 : Int)) = false := by simp; omega
    have a880 : decide ((880 : Int) ≤ c) = true := by simp; omega
    have b893 : decide (c ≤ (893 : Int)) = false := by simp; omega
    have a895 : decide ((895 : Int) ≤ c) = true := by simp; omega
    have b8191 : decide (c ≤ (8191 : Int)) = false := by simp; omega
    have a8304 : decide ((8304 : Int) ≤ c) = true := by simp; omega
    have b8591 : decide (c ≤ (8591 : Int)) = false := by simp; omega
    have a11264 : decide ((11264 : Int) ≤ c) = true := by simp; omega
    have b12271 : decide (c ≤ (12271 : Int)) = false := by simp; omega
    have a12289 : decide ((12289 : Int) ≤ c) = true := by simp; omega
    have b55295 : decide (c ≤ (55295 : Int)) = false := by simp; omega
    have a63744 : decide ((63744 : Int) ≤ c) = true := by simp; omega
    have b64975 : decide (c ≤ (64975 : Int)) = false := by simp; omega
    have a65008 : decide ((65008 : Int) ≤ c) = true := by simp; omega
    have b65533 : decide (c ≤ (65533 : Int)) = false := by simp; omega
    have a65536 : decide ((65536 : Int) ≤ c) = false := by simp; omega
    have b983039 : decide (c ≤ (983039 : Int)) = true := by simp; omega
    have hv : Hid (startB c = false) := by show _ = _; unfold startB; simp; omega
    clear k0 k1 k2 k3 k4 k5 k6 k7 k8 k9 k10 k11 k12 k13 k14 k15 k16 k17 k18 k19 k20 k21 k22 k23 k24 k25 k26 k27 k28 k29
    go_enter Try.func71, Try.ntmps71
    go_wp2_with fail
    go_ret
    exact ⟨by rw [hv.out]; rfl, Below.refl _ _⟩
  rcases Int.lt_or_le c 983040 with k30 | k30
  · have e95 : (c == 95) = false := by simp; omega
    have e8204 : (c == 8204) = false := by simp; omega
    have e8205 : (c == 8205) = false := by simp; omega
    have a65 : decide ((65 : Int) ≤ c) = true := by simp; omega
    have b90 : decide (c ≤ (90 : Int)) = false := by simp; omega
    have a97 : decide ((97 : Int) ≤ c) = true := by simp; omega
    have b122 : decide (c ≤ (122 : Int)) = false := by simp; omega
    have a192 : decide ((192 : Int) ≤ c) = true := by simp; omega
    have b214 : decide (c ≤ (214 : Int)) = false := by simp; omega
    have a216 : decide ((216 : Int) ≤ c) = true := by simp; omega
    have b246 : decide (c ≤ (246 : Int)) = false := by simp; omega
    have a248 : decide ((248 : Int) ≤ c) = true := by simp; omega
    have b767 : decide (c ≤ (767 : Int)) = false := by simp; omega
    have a880 : decide ((880 : Int) ≤ c) = true := by simp; omega
    have b893 : decide (c ≤ (893 : Int)) = false := by simp; omega
    have a895 : decide ((895 : Int) ≤ c) = true := by simp; omega
    have b8191 : decide (c ≤ (8191 : Int)) = false := by simp; omega
    have a8304 : decide ((8304 : Int) ≤ c) = true := by simp; omega
    have b8591 : decide (c ≤ (8591 : Int)) = false := by simp; omega
    have a11264 : decide ((11264 : Int) ≤ c) = true := by simp; omega
    have b12271 : decide (c ≤ (12271 : Int)) = false := by simp; omega
    have a12289 : decide ((12289 : Int) ≤ c) = true := by simp; omega
    have b55295 : decide (c ≤ (55295 : Int)) = false := by simp; omega
    have a63744 : decide ((63744 : Int) ≤ c) = true := by simp; omega
    have b64975 : decide (c ≤ (64975 : Int)) = false := by simp; omega
    have a65008 : decide ((65008 : Int) ≤ c) = true := by simp; omega
    have b65533 : decide (c ≤ (65533 : Int)) = false := by simp; omega
    have a65536 : decide ((65536 : Int) ≤ c) = true := by simp; omega
    have b983039 : decide (c ≤ (983039 : Int)) = true := by simp; omega
    have hv : Hid (startB c = true) := by show _ = _; unfold startB; simp; omega
    clear k0 k1 k2 k3 k4 k5 k6 k7 k8 k9 k10 k11 k12 k13 k14 k15 k16 k17 k18 k19 k20 k21 k22 k23 k24 k25 k26 k27 k28 k29 k30
    go_enter Try.func71, Try.ntmps71
    go_wp2_with fail
    go_ret
    exact ⟨by rw [hv.out]; rfl, Below.refl _ _⟩
  have e95 : (c == 95) = false := by simp; omega
  have e8204 : (c == 8204) = false := by simp; omega
  have e8205 : (c == 8205) = false := by simp; omega
  have a65 : decide ((65 : Int) ≤ c) = true := by simp; omega
  have b90 : decide (c ≤ (90 : Int)) = false := by simp; omega
  have a97 : decide ((97 : Int) ≤ c) = true := by simp; omega
  have b122 : decide (c ≤ (122 : Int)) = false := by simp; omega
  have a192 : decide ((192 : Int) ≤ c) = true := by simp; omega
  have b214 : decide (c ≤ (214 : Int)) = false := by simp; omega
  have a216 : decide ((216 : Int) ≤ c) = true := by simp; omega
  have b246 : decide (c ≤ (246 : Int)) = false := by simp; omega
  have a248 : decide ((248 : Int) ≤ c) = true := by simp; omega
  have b767 : decide (c ≤ (767 : Int)) = false := by simp; omega
  have a880 : decide ((880 : Int) ≤ c) = true := by simp; omega
  have b893 : decide (c ≤ (893 : Int)) = false := by simp; omega
  have a895 : decide ((895 : Int) ≤ c) = true := by simp; omega
  have b8191 : decide (c ≤ (8191 : Int)) = false := by simp; omega
  have a8304 : decide ((8304 : Int) ≤ c) = true := by simp; omega
  have b8591 : decide (c ≤ (8591 : Int)) = false := by simp; omega
  have a11264 : decide ((11264 : Int) ≤ c) = true := by simp; omega
  have b12271 : decide (c ≤ (12271 : Int)) = false := by simp; omega
  have a12289 : decide ((12289 : Int) ≤ c) = true := by simp; omega
  have b55295 : decide (c ≤ (55295 : Int)) = false := by simp; omega
  have a63744 : decide ((63744 : Int) ≤ c) = true := by simp; omega
  have b64975 : decide (c ≤ (64975 : Int)) = false := by simp; omega
  have a65008 : decide ((65008 : Int) ≤ c) = true := by simp; omega
  have b65533 : decide (c ≤ (65533 : Int)) = false := by simp; omega
  have a65536 : decide ((65536 : Int) ≤ c) = true := by simp; omega
  have b983039 : decide (c ≤ (983039 : Int)) = false := by simp; omega
  have hv : Hid (startB c = false) := by show _ = _; unfold startB; simp; omega
  clear k0 k1 k2 k3 k4 k5 k6 k7 k8 k9 k10 k11 k12 k13 k14 k15 k16 k17 k18 k19 k20 k21 k22 k23 k24 k25 k26 k27 k28 k29 k30
  go_enter Try.func71, Try.ntmps71
  go_wp2_with fail
  go_ret
  exact ⟨by rw [hv.out]; rfl, Below.refl _ _⟩

theorem RStart_as (c : Int) (w : World) (r : Bool) (h : Hid (startB c = r)) : Calls Try.prog 71 #[.int .i32 c] w (Ret w (.bool r)) := by
  rw [← h.out]; exact RStart_any c w

set_option maxRecDepth 100000 in
set_option maxHeartbeats 4000000 in
theorem RPart_any (c : Int) (w : World) : Calls Try.prog 72 #[.int .i32 c] w (Ret w (.bool (partB c))) := by
  obtain ⟨b, hb⟩ : ∃ b, Hid (startB c = b) := ⟨_, rfl⟩
  cases b with
  | true =>
    have hv : Hid (partB c = true) := by show _ = _; unfold partB; rw [hb.out]; rfl
    go_enter Try.func72, Try.ntmps72
    go_wp2_with fail
    refine (RStart_as c _ _ hb).mono ?_; rintro e w2 ⟨rfl, hb2⟩
    go_wp2_with fail
    go_ret
    exact ⟨by rw [hv.out]; rfl, hb2⟩
  | false =>
    rcases Int.lt_or_le c 45 with k0 | k0
    · have e45 : (c == 45) = false := by simp; omega
      have e46 : (c == 46) = false := by simp; omega
      have e183 : (c == 183) = false := by simp; omega
      have e8255 : (c == 8255) = false := by simp; omega
      have e8256 : (c == 8256) = false := by simp; omega
      have a48 : decide ((48 : Int) ≤ c) = false := by simp; omega
      have b57 : decide (c ≤ (57 : Int)) = true := by simp; omega
      have a768 : decide ((768 : Int) ≤ c) = false := by simp; omega
      have b879 : decide (c ≤ (879 : Int)) = true := by simp; omega
      have hv : Hid (partB c = startB c) := by show _ = _; unfold partB; rw [Bool.or_eq_left_iff_imp]; simp; omega
      clear k0
      go_enter Try.func72, Try.ntmps72
      go_wp2_with fail
      refine (RStart_as c _ _ hb).mono ?_; rintro e w2 ⟨rfl, hb2⟩
      go_wp2_with fail
      go_ret
      exact ⟨by rw [hv.out]; first | rfl | (rw [hb.out]; rfl), hb2⟩
    rcases Int.lt_or_le c 46 with k1 | k1
    · have e45 : (c == 45) = true := by simp; omega
      have e46 : (c == 46) = false := by simp; omega
      have e183 : (c == 183) = false := by simp; omega
      have e8255 : (c == 8255) = false := by simp; omega
      have e8256 : (c == 8256) = false := by simp; omega
      have a48 : decide ((48 : Int) ≤ c) = false := by simp; omega
      have b57 : decide (c ≤ (57 : Int)) = true := by simp; omega
      have a768 : decide ((768 : Int) ≤ c) = false := by simp; omega
      have b879 : decide (c ≤ (879 : Int)) = true := by simp; omega
      have hv : Hid (partB c = true) := by show _ = _; unfold partB; simp; right; omega
      clear k0 k1
      go_enter Try.func72, Try.ntmps72
      go_wp2_with fail
      refine (RStart_as c _ _ hb).mono ?_; rintro e w2 ⟨rfl, hb2⟩
      go_wp2_with fail
      go_ret
      exact ⟨by rw [hv.out]; first | rfl | (rw [hb.out]; rfl), hb2⟩
    rcases Int.lt_or_le c 47 with k2 | k2
    · have e45 : (c == 45) = false := by simp; omega
      have e46 : (c == 46) = true := by simp; omega
      have e183 : (c == 183) = false := by simp; omega
      have e8255 : (c == 8255) = false := by simp; omega
      have e8256 : (c == 8256) = false := by simp; omega
      have a48 : decide ((48 : Int) ≤ c) = false := by simp; omega
      have b57 : decide (c ≤ (57 : Int)) = true := by simp; omega
      have a768 : decide ((768 : Int) ≤ c) = false := by simp; omega
      have b879 : decide (c ≤ (879 : Int)) = true := by simp; omega
      have hv : Hid (partB c = true) := by show _ = _; unfold partB; simp; right; omega
      clear k0 k1 k2
      go_enter Try.func72, Try.ntmps72
      go_wp2_with fail
      refine (RStart_as c _ _ hb).mono ?_; rintro e w2 ⟨rfl, hb2⟩
      go_wp2_with fail
      go_ret
      exact ⟨by rw [hv.out]; first | rfl | (rw [hb.out]; rfl), hb2⟩
    rcases Int.lt_or_le c 48 with k3 | k3
    · have e45 : (c == 45) = false := by simp; omega
      have e46 : (c == 46) = false := by simp; omega
      have e183 : (c == 183) = false := by simp; omega
      have e8255 : (c == 8255) = false := by simp; omega
      have e8256 : (c == 8256) = false := by simp; omega
      have a48 : decide ((48 : Int) ≤ c) = false := by simp; omega
      have b57 : decide (c ≤ (57 : Int)) = true := by simp; omega
      have a768 : decide ((768 : Int) ≤ c) = false := by simp; omega
      have b879 : decide (c ≤ (879 : Int)) = true := by simp; omega
      have hv : Hid (partB c = startB c) := by show _ = _; unfold partB; rw [Bool.or_eq_left_iff_imp]; simp; omega
      clear k0 k1 k2 k3
      go_enter Try.func72, Try.ntmps72
      go_wp2_with fail
      refine (RStart_as c _ _ hb).mono ?_; rintro e w2 ⟨rfl, hb2⟩
      go_wp2_with fail
      go_ret
      exact ⟨by rw [hv.out]; first | rfl | (rw [hb.out]; rfl), hb2⟩
    rcases Int.lt_or_le c 58 with k4 | k4
    · have e45 : (c == 45) = false := by simp; omega
      have e46 : (c == 46) = false := by simp; omega
      have e183 : (c == 183) = false := by simp; omega
      have e8255 : (c == 8255) = false := by simp; omega
      have e8256 : (c == 8256) = false := by simp; omega
      have a48 : decide ((48 : Int) ≤ c) = true := by simp; omega
      have b57 : decide (c ≤ (57 : Int)) = true := by simp; omega
      have a768 : decide ((768 : Int) ≤ c) = false := by simp; omega
      have b879 : decide (c ≤ (879 : Int)) = true := by simp; omega
      have hv : Hid (partB c = true) := by show _ = _; unfold partB; simp; right; omega
      clear k0 k1 k2 k3 k4
      go_enter Try.func72, Try.ntmps72
      go_wp2_with fail
      refine (RStart_as c _ _ hb).mono ?_; rintro e w2 ⟨rfl, hb2⟩
      go_wp2_with fail
      go_ret
      exact ⟨by rw [hv.out]; first | rfl | (rw [hb.out]; rfl), hb2⟩
    rcases Int.lt_or_le c 183 with k5 | k5
    · have e45 : (c == 45) = false := by simp; omega
      have e46 : (c == 46) = false := by simp; omega
      have e183 : (c == 183) = false := by simp; omega
      have e8255 : (c == 8255) = false := by simp; omega
      have e8256 : (c == 8256) = false := by simp; omega
      have a48 : decide ((48 : Int) ≤ c) = true := by simp; omega
      have b57 : decide (c ≤ (57 : Int)) = false := by simp; omega
      have a768 : decide ((768 : Int) ≤ c) = false := by simp; omega
      have b879 : decide (c ≤ (879 : Int)) = true := by simp; omega
      have hv : Hid (partB c = startB c) := by show _ = _; unfold partB; rw [Bool.or_eq_left_iff_imp]; simp; omega
      clear k0 k1 k2 k3 k4 k5
      go_enter Try.func72, Try.ntmps72
      go_wp2_with fail
      refine (RStart_as c _ _ hb).mono ?_; rintro e w2 ⟨rfl, hb2⟩
      go_wp2_with fail
      go_ret
      exact ⟨by rw [hv.out]; first | rfl | (rw [hb.out]; rfl), hb2⟩
    rcases Int.lt_or_le c 184 with k6 | k6
    · have e45 : (c == 45) = false := by simp; omega
      have e46 : (c == 46) = false := by simp; omega
      have e183 : (c == 183) = true := by simp; omega
      have e8255 : (c == 8255) = false := by simp; omega
      have e8256 : (c == 8256) = false := by simp; omega
      have a48 : decide ((48 : Int) ≤ c) = true := by simp; omega
      have b57 : decide (c ≤ (57 : Int)) = false := by simp; omega
      have a768 : decide ((768 : Int) ≤ c) = false := by simp; omega
      have b879 : decide (c ≤ (879 : Int)) = true := by simp; omega
      have hv : Hid (partB c = true) := by show _ = _; unfold partB; simp; right; omega
      clear k0 k1 k2 k3 k4 k5 k6
      go_enter Try.func72, Try.ntmps72
      go_wp2_with fail
      refine (RStart_as c _ _ hb).mono ?_; rintro e w2 ⟨rfl, hb2⟩
      go_wp2_with fail
      go_ret
      exact ⟨by rw [hv.out]; first | rfl | (rw [hb.out]; rfl), hb2⟩
    rcases Int.lt_or_le c 768 with k7 | k7
    · have e45 : (c == 45) = false := by simp; omega
      have e46 : (c == 46) = false := by simp; omega
      have e183 : (c == 183) = false := by simp; omega
      have e8255 : (c == 8255) = false := by simp; omega
      have e8256 : (c == 8256) = false := by simp; omega
      have a48 : decide ((48 : Int) ≤ c) = true := by simp; omega
      have b57 : decide (c ≤ (57 : Int)) = false := by simp; omega
      have a768 : decide ((768 : Int) ≤ c) = false := by simp; omega
      have b879 : decide (c ≤ (879 : Int)) = true := by simp; omega
      have hv : Hid (partB c = startB c) := by show _ = _; unfold partB; rw [Bool.or_eq_left_iff_imp]; simp; omega
      clear k0 k1 k2 k3 k4 k5 k6 k7
      go_enter Try.func72, Try.ntmps72
      go_wp2_with fail
      refine (RStart_as c _ _ hb).mono ?_; rintro e w2 ⟨rfl, hb2⟩
      go_wp2_with fail
      go_ret
      exact ⟨by rw [hv.out]; first | rfl | (rw [hb.out]; rfl), hb2⟩
    rcases Int.lt_or_le c 880 with k8 | k8
    · have e45 : (c == 45) = false := by simp; omega
      have e46 : (c == 46) = false := by simp; omega
      have e183 : (c == 183) = false := by simp; omega
      have e8255 : (c == 8255) = false := by simp; omega
      have e8256 : (c == 8256) = false := by simp; omega
      have a48 : decide ((48 : Int) ≤ c) = true := by simp; omega
      have b57 : decide (c ≤ (57 : Int)) = false := by simp; omega
      have a768 : decide ((768 : Int) ≤ c) = true := by simp; omega
      have b879 : decide (c ≤ (879 : Int)) = true := by simp; omega
      have hv : Hid (partB c = true) := by show _ = _; unfold partB; simp; right; omega
      clear k0 k1 k2 k3 k4 k5 k6 k7 k8
      go_enter Try.func72, Try.ntmps72
      go_wp2_with fail
      refine (RStart_as c _ _ hb).mono ?_; rintro e w2 ⟨rfl, hb2⟩
      go_wp2_with fail
      go_ret
      exact ⟨by rw [hv.out]; first | rfl | (rw [hb.out]; rfl), hb2⟩
    rcases Int.lt_or_le c 8255 with k9 | k9
    · have e45 : (c == 45) = false := by simp; omega
      have e46 : (c == 46) = false := by simp; omega
      have e183 : (c == 183) = false := by simp; omega
      have e8255 : (c == 8255) = false := by simp; omega
      have e8256 : (c == 8256) = false := by simp; omega
      have a48 : decide ((48 : Int) ≤ c) = true := by simp; omega
      have b57 : decide (c ≤ (57 : Int)) = false := by simp; omega
      have a768 : decide ((768 : Int) ≤ c) = true := by simp; omega
      have b879 : decide (c ≤ (879 : Int)) = false := by simp; omega
      have hv : Hid (partB c = startB c) := by show _ = _; unfold partB; rw [Bool.or_eq_left_iff_imp]; simp; omega
      clear k0 k1 k2 k3 k4 k5 k6 k7 k8 k9
      go_enter Try.func72, Try.ntmps72
      go_wp2_with fail
      refine (RStart_as c _ _ hb).mono ?_; rintro e w2 ⟨rfl, hb2⟩
      go_wp2_with fail
      go_ret
      exact ⟨by rw [hv.out]; first | rfl | (rw [hb.out]; rfl), hb2⟩
    rcases Int.lt_or_le c 8256 with k10 | k10
    · have e45 : (c == 45) = false := by simp; omega
      have e46 : (c == 46) = false := by simp; omega
      have e183 : (c == 183) = false := by simp; omega
      have e8255 : (c == 8255) = true := by simp; omega
      have e8256 : (c == 8256) = false := by simp; omega
      have a48 : decide ((48 : Int) ≤ c) = true := by simp; omega
      have b57 : decide (c ≤ (57 : Int)) = false := by simp; omega
      have a768 : decide ((768 : Int) ≤ c) = true := by simp; omega
      have b879 : decide (c ≤ (879 : Int)) = false := by simp; omega
      have hv : Hid (partB c = true) := by show _ = _; unfold partB; simp; right; omega
      clear k0 k1 k2 k3 k4 k5 k6 k7 k8 k9 k10
      go_enter Try.func72, Try.ntmps72
      go_wp2_with fail
      refine (RStart_as c _ _ hb).mono ?_; rintro e w2 ⟨rfl, hb2⟩
      go_wp2_with fail
      go_ret
      exact ⟨by rw [hv.out]; first | rfl | (rw [hb.out]; rfl), hb2⟩
    rcases Int.lt_or_le c 8257 with k11 | k11
    · have e45 : (c == 45) = false := by simp; omega
      have e46 : (c == 46) = false := by simp; omega
      have e183 : (c == 183) = false := by simp; omega
      have e8255 : (c == 8255) = false := by simp; omega
      have e8256 : (c == 8256) = true := by simp; omega
      have a48 : decide ((48 : Int) ≤ c) = true := by simp; omega
      have b57 : decide (c ≤ (57 : Int)) = false := by simp; omega
      have a768 : decide ((768 : Int) ≤ c) = true := by simp; omega
      have b879 : decide (c ≤ (879 : Int)) = false := by simp; omega
      have hv : Hid (partB c = true) := by show _ = _; unfold partB; simp; right; omega
      clear k0 k1 k2 k3 k4 k5 k6 k7 k8 k9 k10 k11
      go_enter Try.func72, Try.ntmps72
      go_wp2_with fail
      refine (RStart_as c _ _ hb).mono ?_; rintro e w2 ⟨rfl, hb2⟩
      go_wp2_with fail
      go_ret
      exact ⟨by rw [hv.out]; first | rfl | (rw [hb.out]; rfl), hb2⟩
    have e45 : (c == 45) = false := by simp; omega
    have e46 : (c == 46) = false := by simp; omega
    have e183 : (c == 183) = false := by simp; omega
    have e8255 : (c == 8255) = false := by simp; omega
    have e8256 : (c == 8256) = false := by simp; omega
    have a48 : decide ((48 : Int) ≤ c) = true := by simp; omega
    have b57 : decide (c ≤ (57 : Int)) = false := by simp; omega
    have a768 : decide ((768 : Int) ≤ c) = true := by simp; omega
    have b879 : decide (c ≤ (879 : Int)) = false := by simp; omega
    have hv : Hid (partB c = startB c) := by show _ = _; unfold partB; rw [Bool.or_eq_left_iff_imp]; simp; omega
    clear k0 k1 k2 k3 k4 k5 k6 k7 k8 k9 k10 k11
    go_enter Try.func72, Try.ntmps72
    go_wp2_with fail
    refine (RStart_as c _ _ hb).mono ?_; rintro e w2 ⟨rfl, hb2⟩
    go_wp2_with fail
    go_ret
    exact ⟨by rw [hv.out]; first | rfl | (rw [hb.out]; rfl), hb2⟩

theorem RPart_as (c : Int) (w : World) (r : Bool) (h : Hid (partB c = r)) : Calls Try.prog 72 #[.int .i32 c] w (Ret w (.bool r)) := by
  rw [← h.out]; exact RPart_any c w
end Go.Proofs.Ytmkgajdgnmolkaa

/-
  The walk of ref01.Name.
-/
namespace Go.Proofs.Ytmkgajdgnmolkaa
open Go.RowKit

set_option maxRecDepth 100000 in
set_option maxHeartbeats 1000000 in
theorem RName_any (s : ByteArray) (w : World) (hs : s.size ≤ 1000000000) (r : Bool) (hr : Hid (nameL s.data.toList = r)) :
    Calls Try.prog 61 #[.string s] w (Ret w (.bool r)) := by
  obtain ⟨q, hq⟩ : ∃ q, Hid (charsL s.data.toList = q) := ⟨_, rfl⟩
  have hr' := hr.out
  unfold nameL at hr'
  rw [hq.out, size_toList] at hr'
  cases q with
  | none =>
    have hv : Hid (r = false) := hr'.symm
    clear hr'
    go_enter Try.func61, Try.ntmps61
    go_wp2_with fail
    refine (RAll_any s w hs).mono ?_
    rw [hq.out]
    rintro e w2 ⟨ad, cp, rfl, hown, hb2⟩
    clear hown
    go_wp2_with fail
    go_ret
    exact ⟨by rw [hv.out]; rfl, hb2⟩
  | some cs =>
    cases cs with
    | nil =>
      have hv : Hid (r = false) := hr'.symm
      clear hr'
      have hnil : s.data.toList = [] := by
        by_cases hl : s.data.toList = []
        · exact hl
        · exfalso
          have hc := hq.out
          by_cases hn : (nextL s.data.toList).2 = 0
          · rw [charsL_bad _ hl hn] at hc; cases hc
          · rw [charsL_step _ hl hn] at hc
            cases hd : charsL (s.data.toList.drop (nextL s.data.toList).2) <;> rw [hd] at hc <;> simp at hc
      have hsz : (s.size : Int) < 1 := by rw [← size_toList, hnil]; decide
      clear hnil
      go_enter Try.func61, Try.ntmps61
      go_wp2_with fail
      refine (RAll_any s w hs).mono ?_
      rw [hq.out]
      rintro e w2 ⟨ad, cp, rfl, hown, hb2⟩
      clear hown
      go_wp2_with fail
      go_ret
      exact ⟨by rw [hv.out]; rfl, hb2⟩
    | cons c cs =>
      have hne : s.data.toList ≠ [] := by intro h; have := hq.out; rw [h, charsL_nil] at this; cases this
      have hpos : s.size ≠ 0 := by intro h; apply hne; exact List.eq_nil_of_length_eq_zero (by rw [size_toList]; exact h)
      have hcl : cs.length + 1 ≤ s.size := by have := charsL_len _ _ hq.out; rw [size_toList] at this; exact this
      have h1 : decide ((s.size : Int) < 1) = false := by simp; omega
      clear hne
      by_cases h60 : s.size ≤ 60
      · have h2 : decide ((60 : Int) < s.size) = false := by simp; omega
        simp only [h60, decide_true, Bool.true_and] at hr'
        clear h60 hpos
        cases hst : startB c with
        | false =>
          have HST : Hid (startB c = false) := hst
          have hv : Hid (r = false) := by show _ = _; rw [← hr', hst]; rfl
          clear hr' hst
          go_enter Try.func61, Try.ntmps61
          go_wp2_with fail
          refine (RAll_any s w hs).mono ?_
          rw [hq.out]
          rintro e w2 ⟨ad, cp, rfl, hown, hb2⟩
          have hz2 := hb2.size
          rcases own_shape hown with ⟨rfl, hn0, rfl⟩ | ⟨g, rfl, hg1, hg2⟩
          · cases hn0
          · have hcell : w2.cell? ⟨g, 0, none⟩ = some (.int .i32 c) := own_cell hown 0 _ rfl
            have hlen : ((Option.getD (some (c :: cs)) []).length) = cs.length + 1 := rfl
            clear hown
            rw [hlen]
            go_wp2_with fail
            refine (RStart_as c _ _ HST).mono ?_; rintro e w3 ⟨rfl, hb3⟩
            go_wp2_with fail
            go_ret
            exact ⟨by rw [hv.out]; rfl, hb2.trans (hb3.mono hz2)⟩
        | true =>
          have HST : Hid (startB c = true) := hst
          have hv : Hid ((c :: cs).all partB = r) := by show _ = _; rw [← hr', hst]; rfl
          clear hr' hst
          go_enter Try.func61, Try.ntmps61
          go_wp2_with fail
          refine (RAll_any s w hs).mono ?_
          rw [hq.out]
          rintro e w2 ⟨ad, cp, rfl, hown, hb2⟩
          have hz2 := hb2.size
          rcases own_shape hown with ⟨rfl, hn0, rfl⟩ | ⟨g, rfl, hg1, hg2⟩
          · cases hn0
          · have hcell : w2.cell? ⟨g, 0, none⟩ = some (.int .i32 c) := own_cell hown 0 _ rfl
            have hlen : ((Option.getD (some (c :: cs)) []).length) = cs.length + 1 := rfl
            have HOWN := Lib.hid hown
            clear hown
            rw [hlen]
            go_wp2_with fail
            refine (RStart_as c _ _ HST).mono ?_; rintro e w3 ⟨rfl, hb3⟩
            have hz3 := hb3.size
            go_wp2_with fail
            obtain ⟨L, hL⟩ : ∃ L, Hid (L = c :: cs) := ⟨_, rfl⟩
            have hLl : L.length = cs.length + 1 := by rw [hL.out]; rfl
            go_loopw [5] (fun i wr => ∃ (k : Nat), k ≤ cs.length + 1 ∧ i = .int .i64 k ∧ Hid ((L.drop k).all partB = r) ∧ Below w2.heap.size w2 wr) (fun i _ => cs.length + 1 - (intOf i).toNat)
            case atStart => exact ⟨0, Nat.zero_le _, rfl, by show _ = _; rw [hL.out]; exact hv.out, hb3⟩
            case round =>
              obtain ⟨k, hk, rfl, hall, hbel⟩ := hrel
              have hzr := hbel.size
              by_cases hlt : k < cs.length + 1
              · obtain ⟨d, hd⟩ : ∃ d, Hid (L[k]? = some d) := ⟨L[k], List.getElem?_eq_getElem _⟩
                have hcell : wr.cell? ⟨g, k, none⟩ = some (.int .i32 d) := by
                  rw [hbel.cell (p := ⟨g, k, none⟩) hg2]
                  refine own_cell HOWN.out k _ ?_
                  show ((c :: cs).map (Value.int .i32))[k]? = _
                  rw [List.getElem?_map, ← hL.out, hd.out]; rfl
                have hdrop : L.drop k = d :: L.drop (k + 1) := by
                  have h := hd.out
                  have hl : k < L.length := by omega
                  rw [List.drop_eq_getElem_cons hl]
                  rw [List.getElem?_eq_getElem hl] at h
                  injection h with h; rw [h]
                have hall' : (partB d && (L.drop (k + 1)).all partB) = r := by rw [← hall.out, hdrop]; rfl
                clear hdrop
                cases hp : partB d with
                | false =>
                  have HP : Hid (partB d = false) := hp
                  have hv : Hid (r = false) := by show _ = _; rw [← hall', hp]; rfl
                  clear hall' hp
                  go_wp2_with fail
                  refine (RPart_as d _ _ HP).mono ?_; rintro e w4 ⟨rfl, hb4⟩
                  go_wp2_with fail
                  go_ret
                  exact ⟨by rw [hv.out]; rfl, (hb2.trans (hbel.mono (by omega))).trans (hb4.mono (by omega))⟩
                | true =>
                  have HP : Hid (partB d = true) := hp
                  have hv : Hid ((L.drop (k + 1)).all partB = r) := by show _ = _; rw [← hall', hp]; rfl
                  clear hall' hp
                  go_wp2_with fail
                  refine (RPart_as d _ _ HP).mono ?_; rintro e w4 ⟨rfl, hb4⟩
                  go_wp2_with fail
                  go_roundw
                  case rel => exact ⟨k + 1, by omega, by go_num, hv, hbel.trans (hb4.mono (by omega))⟩
                  case measure => simp [intOf]; omega
              · have hk' : k = cs.length + 1 := by omega
                have hv : Hid (r = true) := by
                  show _ = _
                  rw [← hall.out, List.drop_eq_nil_of_le (by omega)]; rfl
                subst hk'
                go_wp2_with fail
                go_ret
                exact ⟨by rw [hv.out]; rfl, hb2.trans (hbel.mono (by omega))⟩
      · have h2 : decide ((60 : Int) < s.size) = true := by simp; omega
        have hv : Hid (r = false) := by show _ = _; rw [← hr']; simp [h60]
        clear hr' h60 hpos
        go_enter Try.func61, Try.ntmps61
        go_wp2_with fail
        refine (RAll_any s w hs).mono ?_
        rw [hq.out]
        rintro e w2 ⟨ad, cp, rfl, hown, hb2⟩
        clear hown
        go_wp2_with fail
        go_ret
        exact ⟨by rw [hv.out]; rfl, hb2⟩
end Go.Proofs.Ytmkgajdgnmolkaa
