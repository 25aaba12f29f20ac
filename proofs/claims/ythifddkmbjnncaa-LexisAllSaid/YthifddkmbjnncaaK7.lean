/-
  Texts of this claim, joined (by a program of the claim's author): RPart, RName, Rd3.
-/
import Derived.Test.YthifddkmbjnncaaK1
import Derived.Test.YthifddkmbjnncaaK2
import Derived.Test.YthifddkmbjnncaaK5
/-
  The walks of ref01.Start and ref01.Part.
-/
namespace Go.Proofs.Ythifddkmbjnncaa
open Go.RowKit

set_option maxRecDepth 100000 in
set_option maxHeartbeats 4000000 in
theorem RStart_any (c : Int) (w : World) : Calls Try.prog 109 #[.int .i32 c] w (Ret w (.bool (startB c))) := by
  rcases Int.lt_or_le c 65 with k0 | k0
  · have e95 : (c == 95) = false := by simp; omega
    have e8204 : (c == 8204) = false := by simp; omega
    have e8205 : (c == 8205) = false := by simp; omega
    have a65 : decide ((65 : Int) ≤ c) = false := by simp; omega
    have b90 : decide (c ≤ (90 : Int)) = true := by simp; omega
    have a97 : decide ((97 : Int) ≤ c) = false := by simp; omega
    have b122 : decide (c ≤ (122 : Int)) = true := by simp; omega
    have a192 : decide ((192 : Int) ≤ c) = false := by simp; omega
    have b214 : decide (c ≤ (214 : Int)) = true := by simp; omega
    have a216 : decide ((216 : Int) ≤ c) = false := by simp; omega
    have b246 : decide (c ≤ (246 : Int)) = true := by simp; omega
    have a248 : decide ((248 : Int) ≤ c) = false := by simp; omega
    have b767 : decide (c ≤ (767 : Int)) = true := by simp; omega
    have a880 : decide ((880 : Int) ≤ c) = false := by simp; omega
    have b893 : decide (c ≤ (893 : Int)) = true := by simp; omega
    have a895 : decide ((895 : Int) ≤ c) = false := by simp; omega
    have b8191 : decide (c ≤ (8191 : Int)) = true := by simp; omega
    have a8304 : decide ((8304 : Int) ≤ c) = false := by simp; omega
    have b8591 : decide (c ≤ (8591 : Int)) = true := by simp; omega
    have a11264 : decide ((11264 : Int) ≤ c) = false := by simp; omega
    have b12271 : decide (c ≤ (12271 : Int)) = true := by simp; omega
    have a12289 : decide ((12289 : Int) ≤ c) = false := by simp; omega
    have b55295 : decide (c ≤ (55295 : Int)) = true := by simp; omega
    have a63744 : decide ((63744 : Int) ≤ c) = false := by simp; omega
    have b64975 : decide (c ≤ (64975 : Int)) = true := by simp; omega
    have a65008 : decide ((65008 : Int) ≤ c) = false := by simp; omega
    have b65533 : decide (c ≤ (65533 : Int)) = true := by simp; omega
    have a65536 : decide ((65536 : Int) ≤ c) = false := by simp; omega
    have b983039 : decide (c ≤ (983039 : Int)) = true := by simp; omega
    have hv : Hid (startB c = false) := by show _ = _; unfold startB; simp; omega
    clear k0
    go_enter Try.func109, Try.ntmps109
    go_wp2_with fail
    go_ret
    exact ⟨by rw [hv.out]; rfl, Below.refl _ _⟩
  rcases Int.lt_or_le c 91 with k1 | k1
  · have e95 : (c == 95) = false := by simp; omega
    have e8204 : (c == 8204) = false := by simp; omega
    have e8205 : (c == 8205) = false := by simp; omega
    have a65 : decide ((65 : Int) ≤ c) = true := by simp; omega
    have b90 : decide (c ≤ (90 : Int)) = true := by simp; omega
    have a97 : decide ((97 : Int) ≤ c) = false := by simp; omega
    have b122 : decide (c ≤ (122 : Int)) = true := by simp; omega
    have a192 : decide ((192 : Int) ≤ c) = false := by simp; omega
    have b214 : decide (c ≤ (214 : Int)) = true := by simp; omega
    have a216 : decide ((216 : Int) ≤ c) = false := by simp; omega
    have b246 : decide (c ≤ (246 : Int)) = true := by simp; omega
    have a248 : decide ((248 : Int) ≤ c) = false := by simp; omega
    have b767 : decide (c ≤ (767 : Int)) = true := by simp; omega
    have a880 : decide ((880 : Int) ≤ c) = false := by simp; omega
    have b893 : decide (c ≤ (893 : Int)) = true := by simp; omega
    have a895 : decide ((895 : Int) ≤ c) = false := by simp; omega
    have b8191 : decide (c ≤ (8191 : Int)) = true := by simp; omega
    have a8304 : decide ((8304 : Int) ≤ c) = false := by simp; omega
    have b8591 : decide (c ≤ (8591 : Int)) = true := by simp; omega
    have a11264 : decide ((11264 : Int) ≤ c) = false := by simp; omega
    have b12271 : decide (c ≤ (12271 : Int)) = true := by simp; omega
    have a12289 : decide ((12289 : Int) ≤ c) = false := by simp; omega
    have b55295 : decide (c ≤ (55295 : Int)) = true := by simp; omega
    have a63744 : decide ((63744 : Int) ≤ c) = false := by simp; omega
    have b64975 : decide (c ≤ (64975 : Int)) = true := by simp; omega
    have a65008 : decide ((65008 : Int) ≤ c) = false := by simp; omega
    have b65533 : decide (c ≤ (65533 : Int)) = true := by simp; omega
    have a65536 : decide ((65536 : Int) ≤ c) = false := by simp; omega
    have b983039 : decide (c ≤ (983039 : Int)) = true := by simp; omega
    have hv : Hid (startB c = true) := by show _ = _; unfold startB; simp; omega
    clear k0 k1
    go_enter Try.func109, Try.ntmps109
    go_wp2_with fail
    go_ret
    exact ⟨by rw [hv.out]; rfl, Below.refl _ _⟩
  rcases Int.lt_or_le c 95 with k2 | k2
  · have e95 : (c == 95) = false := by simp; omega
    have e8204 : (c == 8204) = false := by simp; omega
    have e8205 : (c == 8205) = false := by simp; omega
    have a65 : decide ((65 : Int) ≤ c) = true := by simp; omega
    have b90 : decide (c ≤ (90 : Int)) = false := by simp; omega
    have a97 : decide ((97 : Int) ≤ c) = false := by simp; omega
    have b122 : decide (c ≤ (122 : Int)) = true := by simp; omega
    have a192 : decide ((192 : Int) ≤ c) = false := by simp; omega
    have b214 : decide (c ≤ (214 : Int)) = true := by simp; omega
    have a216 : decide ((216 : Int) ≤ c) = false := by simp; omega
    have b246 : decide (c ≤ (246 : Int)) = true := by simp; omega
    have a248 : decide ((248 : Int) ≤ c) = false := by simp; omega
    have b767 : decide (c ≤ (767 : Int)) = true := by simp; omega
    have a880 : decide ((880 : Int) ≤ c) = false := by simp; omega
    have b893 : decide (c ≤ (893 : Int)) = true := by simp; omega
    have a895 : decide ((895 : Int) ≤ c) = false := by simp; omega
    have b8191 : decide (c ≤ (8191 : Int)) = true := by simp; omega
    have a8304 : decide ((8304 : Int) ≤ c) = false := by simp; omega
    have b8591 : decide (c ≤ (8591 : Int)) = true := by simp; omega
    have a11264 : decide ((11264 : Int) ≤ c) = false := by simp; omega
    have b12271 : decide (c ≤ (12271 : Int)) = true := by simp; omega
    have a12289 : decide ((12289 : Int) ≤ c) = false := by simp; omega
    have b55295 : decide (c ≤ (55295 : Int)) = true := by simp; omega
    have a63744 : decide ((63744 : Int) ≤ c) = false := by simp; omega
    have b64975 : decide (c ≤ (64975 : Int)) = true := by simp; omega
    have a65008 : decide ((65008 : Int) ≤ c) = false := by simp; omega
    have b65533 : decide (c ≤ (65533 : Int)) = true := by simp; omega
    have a65536 : decide ((65536 : Int) ≤ c) = false := by simp; omega
    have b983039 : decide (c ≤ (983039 : Int)) = true := by simp; omega
    have hv : Hid (startB c = false) := by show _ = _; unfold startB; simp; omega
    clear k0 k1 k2
    go_enter Try.func109, Try.ntmps109
    go_wp2_with fail
    go_ret
    exact ⟨by rw [hv.out]; rfl, Below.refl _ _⟩
  rcases Int.lt_or_le c 96 with k3 | k3
  · have e95 : (c == 95) = true := by simp; omega
    have e8204 : (c == 8204) = false := by simp; omega
    have e8205 : (c == 8205) = false := by simp; omega
    have a65 : decide ((65 : Int) ≤ c) = true := by simp; omega
    have b90 : decide (c ≤ (90 : Int)) = false := by simp; omega
    have a97 : decide ((97 : Int) ≤ c) = false := by simp; omega
    have b122 : decide (c ≤ (122 : Int)) = true := by simp; omega
    have a192 : decide ((192 : Int) ≤ c) = false := by simp; omega
    have b214 : decide (c ≤ (214 : Int)) = true := by simp; omega
    have a216 : decide ((216 : Int) ≤ c) = false := by simp; omega
    have b246 : decide (c ≤ (246 : Int)) = true := by simp; omega
    have a248 : decide ((248 : Int) ≤ c) = false := by simp; omega
    have b767 : decide (c ≤ (767 : Int)) = true := by simp; omega
    have a880 : decide ((880 : Int) ≤ c) = false := by simp; omega
    have b893 : decide (c ≤ (893 : Int)) = true := by simp; omega
    have a895 : decide ((895 : Int) ≤ c) = false := by simp; omega
    have b8191 : decide (c ≤ (8191 : Int)) = true := by simp; omega
    have a8304 : decide ((8304 : Int) ≤ c) = false := by simp; omega
    have b8591 : decide (c ≤ (8591 : Int)) = true := by simp; omega
    have a11264 : decide ((11264 : Int) ≤ c) = false := by simp; omega
    have b12271 : decide (c ≤ (12271 : Int)) = true := by simp; omega
    have a12289 : decide ((12289 : Int) ≤ c) = false := by simp; omega
    have b55295 : decide (c ≤ (55295 : Int)) = true := by simp; omega
    have a63744 : decide ((63744 : Int) ≤ c) = false := by simp; omega
    have b64975 : decide (c ≤ (64975 : Int)) = true := by simp; omega
    have a65008 : decide ((65008 : Int) ≤ c) = false := by simp; omega
    have b65533 : decide (c ≤ (65533 : Int)) = true := by simp; omega
    have a65536 : decide ((65536 : Int) ≤ c) = false := by simp; omega
    have b983039 : decide (c ≤ (983039 : Int)) = true := by simp; omega
    have hv : Hid (startB c = true) := by show _ = _; unfold startB; simp; omega
    clear k0 k1 k2 k3
    go_enter Try.func109, Try.ntmps109
    go_wp2_with fail
    go_ret
    exact ⟨by rw [hv.out]; rfl, Below.refl _ _⟩
  rcases Int.lt_or_le c 97 with k4 | k4
  · have e95 : (c == 95) = false := by simp; omega
    have e8204 : (c == 8204) = false := by simp; omega
    have e8205 : (c == 8205) = false := by simp; omega
    have a65 : decide ((65 : Int) ≤ c) = true := by simp; omega
    have b90 : decide (c ≤ (90 : Int)) = false := by simp; omega
    have a97 : decide ((97 : Int) ≤ c) = false := by simp; omega
    have b122 : decide (c ≤ (122 : Int)) = true := by simp; omega
    have a192 : decide ((192 : Int) ≤ c) = false := by simp; omega
    have b214 : decide (c ≤ (214 : Int)) = true := by simp; omega
    have a216 : decide ((216 : Int) ≤ c) = false := by simp; omega
    have b246 : decide (c ≤ (246 : Int)) = true := by simp; omega
    have a248 : decide ((248 : Int) ≤ c) = false := by simp; omega
    have b767 : decide (c ≤ (767 : Int)) = true := by simp; omega
    have a880 : decide ((880 : Int) ≤ c) = false := by simp; omega
    have b893 : decide (c ≤ (893 : Int)) = true := by simp; omega
    have a895 : decide ((895 : Int) ≤ c) = false := by simp; omega
    have b8191 : decide (c ≤ (8191 : Int)) = true := by simp; omega
    have a8304 : decide ((8304 : Int) ≤ c) = false := by simp; omega
    have b8591 : decide (c ≤ (8591 : Int)) = true := by simp; omega
    have a11264 : decide ((11264 : Int) ≤ c) = false := by simp; omega
    have b12271 : decide (c ≤ (12271 : Int)) = true := by simp; omega
    have a12289 : decide ((12289 : Int) ≤ c) = false := by simp; omega
    have b55295 : decide (c ≤ (55295 : Int)) = true := by simp; omega
    have a63744 : decide ((63744 : Int) ≤ c) = false := by simp; omega
    have b64975 : decide (c ≤ (64975 : Int)) = true := by simp; omega
    have a65008 : decide ((65008 : Int) ≤ c) = false := by simp; omega
    have b65533 : decide (c ≤ (65533 : Int)) = true := by simp; omega
    have a65536 : decide ((65536 : Int) ≤ c) = false := by simp; omega
    have b983039 : decide (c ≤ (983039 : Int)) = true := by simp; omega
    have hv : Hid (startB c = false) := by show _ = _; unfold startB; simp; omega
    clear k0 k1 k2 k3 k4
    go_enter Try.func109, Try.ntmps109
    go_wp2_with fail
    go_ret
    exact ⟨by rw [hv.out]; rfl, Below.refl _ _⟩
  rcases Int.lt_or_le c 123 with k5 | k5
  · have e95 : (c == 95) = false := by simp; omega
    have e8204 : (c == 8204) = false := by simp; omega
    have e8205 : (c == 8205) = false := by simp; omega
    have a65 : decide ((65 : Int) ≤ c) = true := by simp; omega
    have b90 : decide (c ≤ (90 : Int)) = false := by simp; omega
    have a97 : decide ((97 : Int) ≤ c) = true := by simp; omega
    have b122 : decide (c ≤ (122 : Int)) = true := by simp; omega
    have a192 : decide ((192 : Int) ≤ c) = false := by simp; omega
    have b214 : decide (c ≤ (214 : Int)) = true := by simp; omega
    have a216 : decide ((216 : Int) ≤ c) = false := by simp; omega
    have b246 : decide (c ≤ (246 : Int)) = true := by simp; omega
    have a248 : decide ((248 : Int) ≤ c) = false := by simp; omega
    have b767 : decide (c ≤ (767 : Int)) = true := by simp; omega
    have a880 : decide ((880 : Int) ≤ c) = false := by simp; omega
    have b893 : decide (c ≤ (893 : Int)) = true := by simp; omega
    have a895 : decide ((895 : Int) ≤ c) = false := by simp; omega
    have b8191 : decide (c ≤ (8191 : Int)) = true := by simp; omega
    have a8304 : decide ((8304 : Int) ≤ c) = false := by simp; omega
    have b8591 : decide (c ≤ (8591 : Int)) = true := by simp; omega
    have a11264 : decide ((11264 : Int) ≤ c) = false := by simp; omega
    have b12271 : decide (c ≤ (12271 : Int)) = true := by simp; omega
    have a12289 : decide ((12289 : Int) ≤ c) = false := by simp; omega
    have b55295 : decide (c ≤ (55295 : Int)) = true := by simp; omega
    have a63744 : decide ((63744 : Int) ≤ c) = false := by simp; omega
    have b64975 : decide (c ≤ (64975 : Int)) = true := by simp; omega
    have a65008 : decide ((65008 : Int) ≤ c) = false := by simp; omega
    have b65533 : decide (c ≤ (65533 : Int)) = true := by simp; omega
    have a65536 : decide ((65536 : Int) ≤ c) = false := by simp; omega
    have b983039 : decide (c ≤ (983039 : Int)) = true := by simp; omega
    have hv : Hid (startB c = true) := by show _ = _; unfold startB; simp; omega
    clear k0 k1 k2 k3 k4 k5
    go_enter Try.func109, Try.ntmps109
    go_wp2_with fail
    go_ret
    exact ⟨by rw [hv.out]; rfl, Below.refl _ _⟩
  rcases Int.lt_or_le c 192 with k6 | k6
  · have e95 : (c == 95) = false := by simp; omega
    have e8204 : (c == 8204) = false := by simp; omega
    have e8205 : (c == 8205) = false := by simp; omega
    have a65 : decide ((65 : Int) ≤ c) = true := by simp; omega
    have b90 : decide (c ≤ (90 : Int)) = false := by simp; omega
    have a97 : decide ((97 : Int) ≤ c) = true := by simp; omega
    have b122 : decide (c ≤ (122 : Int)) = false := by simp; omega
    have a192 : decide ((192 : Int) ≤ c) = false := by simp; omega
    have b214 : decide (c ≤ (214 : Int)) = true := by simp; omega
    have a216 : decide ((216 : Int) ≤ c) = false := by simp; omega
    have b246 : decide (c ≤ (246 : Int)) = true := by simp; omega
    have a248 : decide ((248 : Int) ≤ c) = false := by simp; omega
    have b767 : decide (c ≤ (767 : Int)) = true := by simp; omega
    have a880 : decide ((880 : Int) ≤ c) = false := by simp; omega
    have b893 : decide (c ≤ (893 : Int)) = true := by simp; omega
    have a895 : decide ((895 : Int) ≤ c) = false := by simp; omega
    have b8191 : decide (c ≤ (8191 : Int)) = true := by simp; omega
    have a8304 : decide ((8304 : Int) ≤ c) = false := by simp; omega
    have b8591 : decide (c ≤ (8591 : Int)) = true := by simp; omega
    have a11264 : decide ((11264 : Int) ≤ c) = false := by simp; omega
    have b12271 : decide (c ≤ (12271 : Int)) = true := by simp; omega
    have a12289 : decide ((12289 : Int) ≤ c) = false := by simp; omega
    have b55295 : decide (c ≤ (55295 : Int)) = true := by simp; omega
    have a63744 : decide ((63744 : Int) ≤ c) = false := by simp; omega
    have b64975 : decide (c ≤ (64975 : Int)) = true := by simp; omega
    have a65008 : decide ((65008 : Int) ≤ c) = false := by simp; omega
    have b65533 : decide (c ≤ (65533 : Int)) = true := by simp; omega
    have a65536 : decide ((65536 : Int) ≤ c) = false := by simp; omega
    have b983039 : decide (c ≤ (983039 : Int)) = true := by simp; omega
    have hv : Hid (startB c = false) := by show _ = _; unfold startB; simp; omega
    clear k0 k1 k2 k3 k4 k5 k6
    go_enter Try.func109, Try.ntmps109
    go_wp2_with fail
    go_ret
    exact ⟨by rw [hv.out]; rfl, Below.refl _ _⟩
  rcases Int.lt_or_le c 215 with k7 | k7
  · have e95 : (c == 95) = false := by simp; omega
    have e8204 : (c == 8204) = false := by simp; omega
    have e8205 : (c == 8205) = false := by simp; omega
    have a65 : decide ((65 : Int) ≤ c) = true := by simp; omega
    have b90 : decide (c ≤ (90 : Int)) = false := by simp; omega
    have a97 : decide ((97 : Int) ≤ c) = true := by simp; omega
    have b122 : decide (c ≤ (122 : Int)) = false := by simp; omega
    have a192 : decide ((192 : Int) ≤ c) = true := by simp; omega
    have b214 : decide (c ≤ (214 : Int)) = true := by simp; omega
    have a216 : decide ((216 : Int) ≤ c) = false := by simp; omega
    have b246 : decide (c ≤ (246 : Int)) = true := by simp; omega
    have a248 : decide ((248 : Int) ≤ c) = false := by simp; omega
    have b767 : decide (c ≤ (767 : Int)) = true := by simp; omega
    have a880 : decide ((880 : Int) ≤ c) = false := by simp; omega
    have b893 : decide (c ≤ (893 : Int)) = true := by simp; omega
    have a895 : decide ((895 : Int) ≤ c) = false := by simp; omega
    have b8191 : decide (c ≤ (8191 : Int)) = true := by simp; omega
    have a8304 : decide ((8304 : Int) ≤ c) = false := by simp; omega
    have b8591 : decide (c ≤ (8591 : Int)) = true := by simp; omega
    have a11264 : decide ((11264 : Int) ≤ c) = false := by simp; omega
    have b12271 : decide (c ≤ (12271 : Int)) = true := by simp; omega
    have a12289 : decide ((12289 : Int) ≤ c) = false := by simp; omega
    have b55295 : decide (c ≤ (55295 : Int)) = true := by simp; omega
    have a63744 : decide ((63744 : Int) ≤ c) = false := by simp; omega
    have b64975 : decide (c ≤ (64975 : Int)) = true := by simp; omega
    have a65008 : decide ((65008 : Int) ≤ c) = false := by simp; omega
    have b65533 : decide (c ≤ (65533 : Int)) = true := by simp; omega
    have a65536 : decide ((65536 : Int) ≤ c) = false := by simp; omega
    have b983039 : decide (c ≤ (983039 : Int)) = true := by simp; omega
    have hv : Hid (startB c = true) := by show _ = _; unfold startB; simp; omega
    clear k0 k1 k2 k3 k4 k5 k6 k7
    go_enter Try.func109, Try.ntmps109
    go_wp2_with fail
    go_ret
    exact ⟨by rw [hv.out]; rfl, Below.refl _ _⟩
  rcases Int.lt_or_le c 216 with k8 | k8
  · have e95 : (c == 95) = false := by simp; omega
    have e8204 : (c == 8204) = false := by simp; omega
    have e8205 : (c == 8205) = false := by simp; omega
    have a65 : decide ((65 : Int) ≤ c) = true := by simp; omega
    have b90 : decide (c ≤ (90 : Int)) = false := by simp; omega
    have a97 : decide ((97 : Int) ≤ c) = true := by simp; omega
    have b122 : decide (c ≤ (122 : Int)) = false := by simp; omega
    have a192 : decide ((192 : Int) ≤ c) = true := by simp; omega
    have b214 : decide (c ≤ (214 : Int)) = false := by simp; omega
    have a216 : decide ((216 : Int) ≤ c) = false := by simp; omega
    have b246 : decide (c ≤ (246 : Int)) = true := by simp; omega
    have a248 : decide ((248 : Int) ≤ c) = false := by simp; omega
    have b767 : decide (c ≤ (767 : Int)) = true := by simp; omega
    have a880 : decide ((880 : Int) ≤ c) = false := by simp; omega
    have b893 : decide (c ≤ (893 : Int)) = true := by simp; omega
    have a895 : decide ((895 : Int) ≤ c) = false := by simp; omega
    have b8191 : decide (c ≤ (8191 : Int)) = true := by simp; omega
    have a8304 : decide ((8304 : Int) ≤ c) = false := by simp; omega
    have b8591 : decide (c ≤ (8591 : Int)) = true := by simp; omega
    have a11264 : decide ((11264 : Int) ≤ c) = false := by simp; omega
    have b12271 : decide (c ≤ (12271 : Int)) = true := by simp; omega
    have a12289 : decide ((12289 : Int) ≤ c) = false := by simp; omega
    have b55295 : decide (c ≤ (55295 : Int)) = true := by simp; omega
    have a63744 : decide ((63744 : Int) ≤ c) = false := by simp; omega
    have b64975 : decide (c ≤ (64975 : Int)) = true := by simp; omega
    have a65008 : decide ((65008 : Int) ≤ c) = false := by simp; omega
    have b65533 : decide (c ≤ (65533 : Int)) = true := by simp; omega
    have a65536 : decide ((65536 : Int) ≤ c) = false := by simp; omega
    have b983039 : decide (c ≤ (983039 : Int)) = true := by simp; omega
    have hv : Hid (startB c = false) := by show _ = _; unfold startB; simp; omega
    clear k0 k1 k2 k3 k4 k5 k6 k7 k8
    go_enter Try.func109, Try.ntmps109
    go_wp2_with fail
    go_ret
    exact ⟨by rw [hv.out]; rfl, Below.refl _ _⟩
  rcases Int.lt_or_le c 247 with k9 | k9
  · have e95 : (c == 95) = false := by simp; omega
    have e8204 : (c == 8204) = false := by simp; omega
    have e8205 : (c == 8205) = false := by simp; omega
    have a65 : decide ((65 : Int) ≤ c) = true := by simp; omega
    have b90 : decide (c ≤ (90 : Int)) = false := by simp; omega
    have a97 : decide ((97 : Int) ≤ c) = true := by simp; omega
    have b122 : decide (c ≤ (122 : Int)) = false := by simp; omega
    have a192 : decide ((192 : Int) ≤ c) = true := by simp; omega
    have b214 : decide (c ≤ (214 : Int)) = false := by simp; omega
    have a216 : decide ((216 : Int) ≤ c) = true := by simp; omega
    have b246 : decide (c ≤ (246 : Int)) = true := by simp; omega
    have a248 : decide ((248 : Int) ≤ c) = false := by simp; omega
    have b767 : decide (c ≤ (767 : Int)) = true := by simp; omega
    have a880 : decide ((880 : Int) ≤ c) = false := by simp; omega
    have b893 : decide (c ≤ (893 : Int)) = true := by simp; omega
    have a895 : decide ((895 : Int) ≤ c) = false := by simp; omega
    have b8191 : decide (c ≤ (8191 : Int)) = true := by simp; omega
    have a8304 : decide ((8304 : Int) ≤ c) = false := by simp; omega
    have b8591 : decide (c ≤ (8591 : Int)) = true := by simp; omega
    have a11264 : decide ((11264 : Int) ≤ c) = false := by simp; omega
    have b12271 : decide (c ≤ (12271 : Int)) = true := by simp; omega
    have a12289 : decide ((12289 : Int) ≤ c) = false := by simp; omega
    have b55295 : decide (c ≤ (55295 : Int)) = true := by simp; omega
    have a63744 : decide ((63744 : Int) ≤ c) = false := by simp; omega
    have b64975 : decide (c ≤ (64975 : Int)) = true := by simp; omega
    have a65008 : decide ((65008 : Int) ≤ c) = false := by simp; omega
    have b65533 : decide (c ≤ (65533 : Int)) = true := by simp; omega
    have a65536 : decide ((65536 : Int) ≤ c) = false := by simp; omega
    have b983039 : decide (c ≤ (983039 : Int)) = true := by simp; omega
    have hv : Hid (startB c = true) := by show _ = _; unfold startB; simp; omega
    clear k0 k1 k2 k3 k4 k5 k6 k7 k8 k9
    go_enter Try.func109, Try.ntmps109
    go_wp2_with fail
    go_ret
    exact ⟨by rw [hv.out]; rfl, Below.refl _ _⟩
  rcases Int.lt_or_le c 248 with k10 | k10
  · have e95 : (c == 95) = false := by simp; omega
    have e8204 : (c == 8204) = false := by simp; omega
    have e8205 : (c == 8205) = false := by simp; omega
    have a65 : decide ((65 : Int) ≤ c) = true := by simp; omega
    have b90 : decide (c ≤ (90 : Int)) = false := by simp; omega
    have a97 : decide ((97 : Int) ≤ c) = true := by simp; omega
    have b122 : decide (c ≤ (122 : Int)) = false := by simp; omega
    have a192 : decide ((192 : Int) ≤ c) = true := by simp; omega
    have b214 : decide (c ≤ (214 : Int)) = false := by simp; omega
    have a216 : decide ((216 : Int) ≤ c) = true := by simp; omega
    have b246 : decide (c ≤ (246 : Int)) = false := by simp; omega
    have a248 : decide ((248 : Int) ≤ c) = false := by simp; omega
    have b767 : decide (c ≤ (767 : Int)) = true := by simp; omega
    have a880 : decide ((880 : Int) ≤ c) = false := by simp; omega
    have b893 : decide (c ≤ (893 : Int)) = true := by simp; omega
    have a895 : decide ((895 : Int) ≤ c) = false := by simp; omega
    have b8191 : decide (c ≤ (8191 : Int)) = true := by simp; omega
    have a8304 : decide ((8304 : Int) ≤ c) = false := by simp; omega
    have b8591 : decide (c ≤ (8591 : Int)) = true := by simp; omega
    have a11264 : decide ((11264 : Int) ≤ c) = false := by simp; omega
    have b12271 : decide (c ≤ (12271 : Int)) = true := by simp; omega
    have a12289 : decide ((12289 : Int) ≤ c) = false := by simp; omega
    have b55295 : decide (c ≤ (55295 : Int)) = true := by simp; omega
    have a63744 : decide ((63744 : Int) ≤ c) = false := by simp; omega
    have b64975 : decide (c ≤ (64975 : Int)) = true := by simp; omega
    have a65008 : decide ((65008 : Int) ≤ c) = false := by simp; omega
    have b65533 : decide (c ≤ (65533 : Int)) = true := by simp; omega
    have a65536 : decide ((65536 : Int) ≤ c) = false := by simp; omega
    have b983039 : decide (c ≤ (983039 : Int)) = true := by simp; omega
    have hv : Hid (startB c = false) := by show _ = _; unfold startB; simp; omega
    clear k0 k1 k2 k3 k4 k5 k6 k7 k8 k9 k10
    go_enter Try.func109, Try.ntmps109
    go_wp2_with fail
    go_ret
    exact ⟨by rw [hv.out]; rfl, Below.refl _ _⟩
  rcases Int.lt_or_le c 768 with k11 | k11
  · have e95 : (c == 95) = false := by simp; omega
    have e8204 : (c == 8204) = false := by simp; omega
    have e8205 : (c == 8205) = false := by simp; omega
    have a65 : decide ((65 : Int) ≤ c) = true := by simp; omega
    have b90 : decide (c ≤ (90 : Int)) = false := by simp; omega
    have a97 : decide ((97 : Int) ≤ c) = true := by simp; omega
    have b122 : decide (c ≤ (122 : Int)) = false := by simp; omega
    have a192 : decide ((192 : Int) ≤ c) = true := by simp; omega
    have b214 : decide (c ≤ (214 : Int)) = false := by simp; omega
    have a216 : decide ((216 : Int) ≤ c) = true := by simp; omega
    have b246 : decide (c ≤ (246 : Int)) = false := by simp; omega
    have a248 : decide ((248 : Int) ≤ c) = true := by simp; omega
    have b767 : decide (c ≤ (767 : Int)) = true := by simp; omega
    have a880 : decide ((880 : Int) ≤ c) = false := by simp; omega
    have b893 : decide (c ≤ (893 : Int)) = true := by simp; omega
    have a895 : decide ((895 : Int) ≤ c) = false := by simp; omega
    have b8191 : decide (c ≤ (8191 : Int)) = true := by simp; omega
    have a8304 : decide ((8304 : Int) ≤ c) = false := by simp; omega
    have b8591 : decide (c ≤ (8591 : Int)) = true := by simp; omega
    have a11264 : decide ((11264 : Int) ≤ c) = false := by simp; omega
    have b12271 : decide (c ≤ (12271 : Int)) = true := by simp; omega
    have a12289 : decide ((12289 : Int) ≤ c) = false := by simp; omega
    have b55295 : decide (c ≤ (55295 : Int)) = true := by simp; omega
    have a63744 : decide ((63744 : Int) ≤ c) = false := by simp; omega
    have b64975 : decide (c ≤ (64975 : Int)) = true := by simp; omega
    have a65008 : decide ((65008 : Int) ≤ c) = false := by simp; omega
    have b65533 : decide (c ≤ (65533 : Int)) = true := by simp; omega
    have a65536 : decide ((65536 : Int) ≤ c) = false := by simp; omega
    have b983039 : decide (c ≤ (983039 : Int)) = true := by simp; omega
    have hv : Hid (startB c = true) := by show _ = _; unfold startB; simp; omega
    clear k0 k1 k2 k3 k4 k5 k6 k7 k8 k9 k10 k11
    go_enter Try.func109, Try.ntmps109
    go_wp2_with fail
    go_ret
    exact ⟨by rw [hv.out]; rfl, Below.refl _ _⟩
  rcases Int.lt_or_le c 880 with k12 | k12
  · have e95 : (c == 95) = false := by simp; omega
    have e8204 : (c == 8204) = false := by simp; omega
    have e8205 : (c == 8205) = false := by simp; omega
    have a65 : decide ((65 : Int) ≤ c) = true := by simp; omega
    have b90 : decide (c ≤ (90 : Int)) = false := by simp; omega
    have a97 : decide ((97 : Int) ≤ c) = true := by simp; omega
    have b122 : decide (c ≤ (122 : Int)) = false := by simp; omega
    have a192 : decide ((192 : Int) ≤ c) = true := by simp; omega
    have b214 : decide (c ≤ (214 : Int)) = false := by simp; omega
    have a216 : decide ((216 : Int) ≤ c) = true := by simp; omega
    have b246 : decide (c ≤ (246 : Int)) = false := by simp; omega
    have a248 : decide ((248 : Int) ≤ c) = true := by simp; omega
    have b767 : decide (c ≤ (767 : Int)) = false := by simp; omega
    have a880 : decide ((880 : Int) ≤ c) = false := by simp; omega
    have b893 : decide (c ≤ (893 : Int)) = true := by simp; omega
    have a895 : decide ((895 : Int) ≤ c) = false := by simp; omega
    have b8191 : decide (c ≤ (8191 : Int)) = true := by simp; omega
    have a8304 : decide ((8304 : Int) ≤ c) = false := by simp; omega
    have b8591 : decide (c ≤ (8591 : Int)) = true := by simp; omega
    have a11264 : decide ((11264 : Int) ≤ c) = false := by simp; omega
    have b12271 : decide (c ≤ (12271 : Int)) = true := by simp; omega
    have a12289 : decide ((12289 : Int) ≤ c) = false := by simp; omega
    have b55295 : decide (c ≤ (55295 : Int)) = true := by simp; omega
    have a63744 : decide ((63744 : Int) ≤ c) = false := by simp; omega
    have b64975 : decide (c ≤ (64975 : Int)) = true := by simp; omega
    have a65008 : decide ((65008 : Int) ≤ c) = false := by simp; omega
    have b65533 : decide (c ≤ (65533 : Int)) = true := by simp; omega
    have a65536 : decide ((65536 : Int) ≤ c) = false := by simp; omega
    have b983039 : decide (c ≤ (983039 : Int)) = true := by simp; omega
    have hv : Hid (startB c = false) := by show _ = _; unfold startB; simp; omega
    clear k0 k1 k2 k3 k4 k5 k6 k7 k8 k9 k10 k11 k12
    go_enter Try.func109, Try.ntmps109
    go_wp2_with fail
    go_ret
    exact ⟨by rw [hv.out]; rfl, Below.refl _ _⟩
  rcases Int.lt_or_le c 894 with k13 | k13
  · have e95 : (c == 95) = false := by simp; omega
    have e8204 : (c == 8204) = false := by simp; omega
    have e8205 : (c == 8205) = false := by simp; omega
    have a65 : decide ((65 : Int) ≤ c) = true := by simp; omega
    have b90 : decide (c ≤ (90 : Int)) = false := by simp; omega
    have a97 : decide ((97 : Int) ≤ c) = true := by simp; omega
    have b122 : decide (c ≤ (122 : Int)) = false := by simp; omega
    have a192 : decide ((192 : Int) ≤ c) = true := by simp; omega
    have b214 : decide (c ≤ (214 : Int)) = false := by simp; omega
    have a216 : decide ((216 : Int) ≤ c) = true := by simp; omega
    have b246 : decide (c ≤ (246 : Int)) = false := by simp; omega
    have a248 : decide ((248 : Int) ≤ c) = true := by simp; omega
    have b767 : decide (c ≤ (767 : Int)) = false := by simp; omega
    have a880 : decide ((880 : Int) ≤ c) = true := by simp; omega
    have b893 : decide (c ≤ (893 : Int)) = true := by simp; omega
    have a895 : decide ((895 : Int) ≤ c) = false := by simp; omega
    have b8191 : decide (c ≤ (8191 : Int)) = true := by simp; omega
    have a8304 : decide ((8304 : Int) ≤ c) = false := by simp; omega
    have b8591 : decide (c ≤ (8591 : Int)) = true := by simp; omega
    have a11264 : decide ((11264 : Int) ≤ c) = false := by simp; omega
    have b12271 : decide (c ≤ (12271 : Int)) = true := by simp; omega
    have a12289 : decide ((12289 : Int) ≤ c) = false := by simp; omega
    have b55295 : decide (c ≤ (55295 : Int)) = true := by simp; omega
    have a63744 : decide ((63744 : Int) ≤ c) = false := by simp; omega
    have b64975 : decide (c ≤ (64975 : Int)) = true := by simp; omega
    have a65008 : decide ((65008 : Int) ≤ c) = false := by simp; omega
    have b65533 : decide (c ≤ (65533 : Int)) = true := by simp; omega
    have a65536 : decide ((65536 : Int) ≤ c) = false := by simp; omega
    have b983039 : decide (c ≤ (983039 : Int)) = true := by simp; omega
    have hv : Hid (startB c = true) := by show _ = _; unfold startB; simp; omega
    clear k0 k1 k2 k3 k4 k5 k6 k7 k8 k9 k10 k11 k12 k13
    go_enter Try.func109, Try.ntmps109
    go_wp2_with fail
    go_ret
    exact ⟨by rw [hv.out]; rfl, Below.refl _ _⟩
  rcases Int.lt_or_le c 895 with k14 | k14
  · have e95 : (c == 95) = false := by simp; omega
    have e8204 : (c == 8204) = false := by simp; omega
    have e8205 : (c == 8205) = false := by simp; omega
    have a65 : decide ((65 : Int) ≤ c) = true := by simp; omega
    have b90 : decide (c ≤ (90 : Int)) = false := by simp; omega
    have a97 : decide ((97 : Int) ≤ c) = true := by simp; omega
    have b122 : decide (c ≤ (122 : Int)) = false := by simp; omega
    have a192 : decide ((192 : Int) ≤ c) = true := by simp; omega
    have b214 : decide (c ≤ (214 : Int)) = false := by simp; omega
    have a216 : decide ((216 : Int) ≤ c) = true := by simp; omega
    have b246 : decide (c ≤ (246 : Int)) = false := by simp; omega
    have a248 : decide ((248 : Int) ≤ c) = true := by simp; omega
    have b767 : decide (c ≤ (767 : Int)) = false := by simp; omega
    have a880 : decide ((880 : Int) ≤ c) = true := by simp; omega
    have b893 : decide (c ≤ (893 : Int)) = false := by simp; omega
    have a895 : decide ((895 : Int) ≤ c) = false := by simp; omega
    have b8191 : decide (c ≤ (8191 : Int)) = true := by simp; omega
    have a8304 : decide ((8304 : Int) ≤ c) = false := by simp; omega
    have b8591 : decide (c ≤ (8591 : Int)) = true := by simp; omega
    have a11264 : decide ((11264 : Int) ≤ c) = false := by simp; omega
    have b12271 : decide (c ≤ (12271 : Int)) = true := by simp; omega
    have a12289 : decide ((12289 : Int) ≤ c) = false := by simp; omega
    have b55295 : decide (c ≤ (55295 : Int)) = true := by simp; omega
    have a63744 : decide ((63744 : Int) ≤ c) = false := by simp; omega
    have b64975 : decide (c ≤ (64975 : Int)) = true := by simp; omega
    have a65008 : decide ((65008 : Int) ≤ c) = false := by simp; omega
    have b65533 : decide (c ≤ (65533 : Int)) = true := by simp; omega
    have a65536 : decide ((65536 : Int) ≤ c) = false := by simp; omega
    have b983039 : decide (c ≤ (983039 : Int)) = true := by simp; omega
    have hv : Hid (startB c = false) := by show _ = _; unfold startB; simp; omega
    clear k0 k1 k2 k3 k4 k5 k6 k7 k8 k9 k10 k11 k12 k13 k14
    go_enter Try.func109, Try.ntmps109
    go_wp2_with fail
    go_ret
    exact ⟨by rw [hv.out]; rfl, Below.refl _ _⟩
  rcases Int.lt_or_le c 8192 with k15 | k15
  · have e95 : (c == 95) = false := by simp; omega
    have e8204 : (c == 8204) = false := by simp; omega
    have e8205 : (c == 8205) = false := by simp; omega
    have a65 : decide ((65 : Int) ≤ c) = true := by simp; omega
    have b90 : decide (c ≤ (90 : Int)) = false := by simp; omega
    have a97 : decide ((97 : Int) ≤ c) = true := by simp; omega
    have b122 : decide (c ≤ (122 : Int)) = false := by simp; omega
    have a192 : decide ((192 : Int) ≤ c) = true := by simp; omega
    have b214 : decide (c ≤ (214 : Int)) = false := by simp; omega
    have a216 : decide ((216 : Int) ≤ c) = true := by simp; omega
    have b246 : decide (c ≤ (246 : Int)) = false := by simp; omega
    have a248 : decide ((248 : Int) ≤ c) = true := by simp; omega
    have b767 : decide (c ≤ (767 : Int)) = false := by simp; omega
    have a880 : decide ((880 : Int) ≤ c) = true := by simp; omega
    have b893 : decide (c ≤ (893 : Int)) = false := by simp; omega
    have a895 : decide ((895 : Int) ≤ c) = true := by simp; omega
    have b8191 : decide (c ≤ (8191 : Int)) = true := by simp; omega
    have a8304 : decide ((8304 : Int) ≤ c) = false := by simp; omega
    have b8591 : decide (c ≤ (8591 : Int)) = true := by simp; omega
    have a11264 : decide ((11264 : Int) ≤ c) = false := by simp; omega
    have b12271 : decide (c ≤ (12271 : Int)) = true := by simp; omega
    have a12289 : decide ((12289 : Int) ≤ c) = false := by simp; omega
    have b55295 : decide (c ≤ (55295 : Int)) = true := by simp; omega
    have a63744 : decide ((63744 : Int) ≤ c) = false := by simp; omega
    have b64975 : decide (c ≤ (64975 : Int)) = true := by simp; omega
    have a65008 : decide ((65008 : Int) ≤ c) = false := by simp; omega
    have b65533 : decide (c ≤ (65533 : Int)) = true := by simp; omega
    have a65536 : decide ((65536 : Int) ≤ c) = false := by simp; omega
    have b983039 : decide (c ≤ (983039 : Int)) = true := by simp; omega
    have hv : Hid (startB c = true) := by show _ = _; unfold startB; simp; omega
    clear k0 k1 k2 k3 k4 k5 k6 k7 k8 k9 k10 k11 k12 k13 k14 k15
    go_enter Try.func109, Try.ntmps109
    go_wp2_with fail
    go_ret
    exact ⟨by rw [hv.out]; rfl, Below.refl _ _⟩
  rcases Int.lt_or_le c 8204 with k16 | k16
  · have e95 : (c == 95) = false := by simp; omega
    have e8204 : (c == 8204) = false := by simp; omega
    have e8205 : (c == 8205) = false := by simp; omega
    have a65 : decide ((65 : Int) ≤ c) = true := by simp; omega
    have b90 : decide (c ≤ (90 : Int)) = false := by simp; omega
    have a97 : decide ((97 : Int) ≤ c) = true := by simp; omega
    have b122 : decide (c ≤ (122 : Int)) = false := by simp; omega
    have a192 : decide ((192 : Int) ≤ c) = true := by simp; omega
    have b214 : decide (c ≤ (214 : Int)) = false := by simp; omega
    have a216 : decide ((216 : Int) ≤ c) = true := by simp; omega
    have b246 : decide (c ≤ (246 : Int)) = false := by simp; omega
    have a248 : decide ((248 : Int) ≤ c) = true := by simp; omega
    have b767 : decide (c ≤ (767 : Int)) = false := by simp; omega
    have a880 : decide ((880 : Int) ≤ c) = true := by simp; omega
    have b893 : decide (c ≤ (893 : Int)) = false := by simp; omega
    have a895 : decide ((895 : Int) ≤ c) = true := by simp; omega
    have b8191 : decide (c ≤ (8191 : Int)) = false := by simp; omega
    have a8304 : decide ((8304 : Int) ≤ c) = false := by simp; omega
    have b8591 : decide (c ≤ (8591 : Int)) = true := by simp; omega
    have a11264 : decide ((11264 : Int) ≤ c) = false := by simp; omega
    have b12271 : decide (c ≤ (12271 : Int)) = true := by simp; omega
    have a12289 : decide ((12289 : Int) ≤ c) = false := by simp; omega
    have b55295 : decide (c ≤ (55295 : Int)) = true := by simp; omega
    have a63744 : decide ((63744 : Int) ≤ c) = false := by simp; omega
    have b64975 : decide (c ≤ (64975 : Int)) = true := by simp; omega
    have a65008 : decide ((65008 : Int) ≤ c) = false := by simp; omega
    have b65533 : decide (c ≤ (65533 : Int)) = true := by simp; omega
    have a65536 : decide ((65536 : Int) ≤ c) = false := by simp; omega
    have b983039 : decide (c ≤ (983039 : Int)) = true := by simp; omega
    have hv : Hid (startB c = false) := by show _ = _; unfold startB; simp; omega
    clear k0 k1 k2 k3 k4 k5 k6 k7 k8 k9 k10 k11 k12 k13 k14 k15 k16
    go_enter Try.func109, Try.ntmps109
    go_wp2_with fail
    go_ret
    exact ⟨by rw [hv.out]; rfl, Below.refl _ _⟩
  rcases Int.lt_or_le c 8205 with k17 | k17
  · have e95 : (c == 95) = false := by simp; omega
    have e8204 : (c == 8204) = true := by simp; omega
    have e8205 : (c == 8205) = false := by simp; omega
    have a65 : decide ((65 : Int) ≤ c) = true := by simp; omega
    have b90 : decide (c ≤ (90 : Int)) = false := by simp; omega
    have a97 : decide ((97 : Int) ≤ c) = true := by simp; omega
    have b122 : decide (c ≤ (122 : Int)) = false := by simp; omega
    have a192 : decide ((192 : Int) ≤ c) = true := by simp; omega
    have b214 : decide (c ≤ (214 : Int)) = false := by simp; omega
    have a216 : decide ((216 : Int) ≤ c) = true := by simp; omega
    have b246 : decide (c ≤ (246 : Int)) = false := by simp; omega
    have a248 : decide ((248 : Int) ≤ c) = true := by simp; omega
    have b767 : decide (c ≤ (767 : Int)) = false := by simp; omega
    have a880 : decide ((880 : Int) ≤ c) = true := by simp; omega
    have b893 : decide (c ≤ (893 : Int)) = false := by simp; omega
    have a895 : decide ((895 : Int) ≤ c) = true := by simp; omega
    have b8191 : decide (c ≤ (8191 : Int)) = false := by simp; omega
    have a8304 : decide ((8304 : Int) ≤ c) = false := by simp; omega
    have b8591 : decide (c ≤ (8591 : Int)) = true := by simp; omega
    have a11264 : decide ((11264 : Int) ≤ c) = false := by simp; omega
    have b12271 : decide (c ≤ (12271 : Int)) = true := by simp; omega
    have a12289 : decide ((12289 : Int) ≤ c) = false := by simp; omega
    have b55295 : decide (c ≤ (55295 : Int)) = true := by simp; omega
    have a63744 : decide ((63744 : Int) ≤ c) = false := by simp; omega
    have b64975 : decide (c ≤ (64975 : Int)) = true := by simp; omega
    have a65008 : decide ((65008 : Int) ≤ c) = false := by simp; omega
    have b65533 : decide (c ≤ (65533 : Int)) = true := by simp; omega
    have a65536 : decide ((65536 : Int) ≤ c) = false := by simp; omega
    have b983039 : decide (c ≤ (983039 : Int)) = true := by simp; omega
    have hv : Hid (startB c = true) := by show _ = _; unfold startB; simp; omega
    clear k0 k1 k2 k3 k4 k5 k6 k7 k8 k9 k10 k11 k12 k13 k14 k15 k16 k17
    go_enter Try.func109, Try.ntmps109
    go_wp2_with fail
    go_ret
    exact ⟨by rw [hv.out]; rfl, Below.refl _ _⟩
  rcases Int.lt_or_le c 8206 with k18 | k18
  · have e95 : (c == 95) = false := by simp; omega
    have e8204 : (c == 8204) = false := by simp; omega
    have e8205 : (c == 8205) = true := by simp; omega
    have a65 : decide ((65 : Int) ≤ c) = true := by simp; omega
    have b90 : decide (c ≤ (90 : Int)) = false := by simp; omega
    have a97 : decide ((97 : Int) ≤ c) = true := by simp; omega
    have b122 : decide (c ≤ (122 : Int)) = false := by simp; omega
    have a192 : decide ((192 : Int) ≤ c) = true := by simp; omega
    have b214 : decide (c ≤ (214 : Int)) = false := by simp; omega
    have a216 : decide ((216 : Int) ≤ c) = true := by simp; omega
    have b246 : decide (c ≤ (246 : Int)) = false := by simp; omega
    have a248 : decide ((248 : Int) ≤ c) = true := by simp; omega
    have b767 : decide (c ≤ (767 : Int)) = false := by simp; omega
    have a880 : decide ((880 : Int) ≤ c) = true := by simp; omega
    have b893 : decide (c ≤ (893 : Int)) = false := by simp; omega
    have a895 : decide ((895 : Int) ≤ c) = true := by simp; omega
    have b8191 : decide (c ≤ (8191 : Int)) = false := by simp; omega
    have a8304 : decide ((8304 : Int) ≤ c) = false := by simp; omega
    have b8591 : decide (c ≤ (8591 : Int)) = true := by simp; omega
    have a11264 : decide ((11264 : Int) ≤ c) = false := by simp; omega
    have b12271 : decide (c ≤ (12271 : Int)) = true := by simp; omega
    have a12289 : decide ((12289 : Int) ≤ c) = false := by simp; omega
    have b55295 : decide (c ≤ (55295 : Int)) = true := by simp; omega
    have a63744 : decide ((63744 : Int) ≤ c) = false := by simp; omega
    have b64975 : decide (c ≤ (64975 : Int)) = true := by simp; omega
    have a65008 : decide ((65008 : Int) ≤ c) = false := by simp; omega
    have b65533 : decide (c ≤ (65533 : Int)) = true := by simp; omega
    have a65536 : decide ((65536 : Int) ≤ c) = false := by simp; omega
    have b983039 : decide (c ≤ (983039 : Int)) = true := by simp; omega
    have hv : Hid (startB c = true) := by show _ = _; unfold startB; simp; omega
    clear k0 k1 k2 k3 k4 k5 k6 k7 k8 k9 k10 k11 k12 k13 k14 k15 k16 k17 k18
    go_enter Try.func109, Try.ntmps109
    go_wp2_with fail
    go_ret
    exact ⟨by rw [hv.out]; rfl, Below.refl _ _⟩
  rcases Int.lt_or_le c 8304 with k19 | k19
  · have e95 : (c == 95) = false := by simp; omega
    have e8204 : (c == 8204) = false := by simp; omega
    have e8205 : (c == 8205) = false := by simp; omega
    have a65 : decide ((65 : Int) ≤ c) = true := by simp; omega
    have b90 : decide (c ≤ (90 : Int)) = false := by simp; omega
    have a97 : decide ((97 : Int) ≤ c) = true := by simp; omega
    have b122 : decide (c ≤ (122 : Int)) = false := by simp; omega
    have a192 : decide ((192 : Int) ≤ c) = true := by simp; omega
    have b214 : decide (c ≤ (214 : Int)) = false := by simp; omega
    have a216 : decide ((216 : Int) ≤ c) = true := by simp; omega
    have b246 : decide (c ≤ (246 : Int)) = false := by simp; omega
    have a248 : decide ((248 : Int) ≤ c) = true := by simp; omega
    have b767 : decide (c ≤ (767 : Int)) = false := by simp; omega
    have a880 : decide ((880 : Int) ≤ c) = true := by simp; omega
    have b893 : decide (c ≤ (893 : Int)) = false := by simp; omega
    have a895 : decide ((895 : Int) ≤ c) = true := by simp; omega
    have b8191 : decide (c ≤ (8191 : Int)) = false := by simp; omega
    have a8304 : decide ((8304 : Int) ≤ c) = false := by simp; omega
    have b8591 : decide (c ≤ (8591 : Int)) = true := by simp; omega
    have a11264 : decide ((11264 : Int) ≤ c) = false := by simp; omega
    have b12271 : decide (c ≤ (12271 : Int)) = true := by simp; omega
    have a12289 : decide ((12289 : Int) ≤ c) = false := by simp; omega
    have b55295 : decide (c ≤ (55295 : Int)) = true := by simp; omega
    have a63744 : decide ((63744 : Int) ≤ c) = false := by simp; omega
    have b64975 : decide (c ≤ (64975 : Int)) = true := by simp; omega
    have a65008 : decide ((65008 : Int) ≤ c) = false := by simp; omega
    have b65533 : decide (c ≤ (65533 : Int)) = true := by simp; omega
    have a65536 : decide ((65536 : Int) ≤ c) = false := by simp; omega
    have b983039 : decide (c ≤ (983039 : Int)) = true := by simp; omega
    have hv : Hid (startB c = false) := by show _ = _; unfold startB; simp; omega
    clear k0 k1 k2 k3 k4 k5 k6 k7 k8 k9 k10 k11 k12 k13 k14 k15 k16 k17 k18 k19
    go_enter Try.func109, Try.ntmps109
    go_wp2_with fail
    go_ret
    exact ⟨by rw [hv.out]; rfl, Below.refl _ _⟩
  rcases Int.lt_or_le c 8592 with k20 | k20
  · have e95 : (c == 95) = false := by simp; omega
    have e8204 : (c == 8204) = false := by simp; omega
    have e8205 : (c == 8205) = false := by simp; omega
    have a65 : decide ((65 : Int) ≤ c) = true := by simp; omega
    have b90 : decide (c ≤ (90 : Int)) = false := by simp; omega
    have a97 : decide ((97 : Int) ≤ c) = true := by simp; omega
    have b122 : decide (c ≤ (122 : Int)) = false := by simp; omega
    have a192 : decide ((192 : Int) ≤ c) = true := by simp; omega
    have b214 : decide (c ≤ (214 : Int)) = false := by simp; omega
    have a216 : decide ((216 : Int) ≤ c) = true := by simp; omega
    have b246 : decide (c ≤ (246 : Int)) = false := by simp; omega
    have a248 : decide ((248 : Int) ≤ c) = true := by simp; omega
    have b767 : decide (c ≤ (767 : Int)) = false := by simp; omega
    have a880 : decide ((880 : Int) ≤ c) = true := by simp; omega
    have b893 : decide (c ≤ (893 : Int)) = false := by simp; omega
    have a895 : decide ((895 : Int) ≤ c) = true := by simp; omega
    have b8191 : decide (c ≤ (8191 : Int)) = false := by simp; omega
    have a8304 : decide ((8304 : Int) ≤ c) = true := by simp; omega
    have b8591 : decide (c ≤ (8591 : Int)) = true := by simp; omega
    have a11264 : decide ((11264 : Int) ≤ c) = false := by simp; omega
    have b12271 : decide (c ≤ (12271 : Int)) = true := by simp; omega
    have a12289 : decide ((12289 : Int) ≤ c) = false := by simp; omega
    have b55295 : decide (c ≤ (55295 : Int)) = true := by simp; omega
    have a63744 : decide ((63744 : Int) ≤ c) = false := by simp; omega
    have b64975 : decide (c ≤ (64975 : Int)) = true := by simp; omega
    have a65008 : decide ((65008 : Int) ≤ c) = false := by simp; omega
    have b65533 : decide (c ≤ (65533 : Int)) = true := by simp; omega
    have a65536 : decide ((65536 : Int) ≤ c) = false := by simp; omega
    have b983039 : decide (c ≤ (983039 : Int)) = true := by simp; omega
    have hv : Hid (startB c = true) := by show _ = _; unfold startB; simp; omega
    clear k0 k1 k2 k3 k4 k5 k6 k7 k8 k9 k10 k11 k12 k13 k14 k15 k16 k17 k18 k19 k20
    go_enter Try.func109, Try.ntmps109
    go_wp2_with fail
    go_ret
    exact ⟨by rw [hv.out]; rfl, Below.refl _ _⟩
  rcases Int.lt_or_le c 11264 with k21 | k21
  · have e95 : (c == 95) = false := by simp; omega
    have e8204 : (c == 8204) = false := by simp; omega
    have e8205 : (c == 8205) = false := by simp; omega
    have a65 : decide ((65 : Int) ≤ c) = true := by simp; omega
    have b90 : decide (c ≤ (90 : Int)) = false := by simp; omega
    have a97 : decide ((97 : Int) ≤ c) = true := by simp; omega
    have b122 : decide (c ≤ (122 : Int)) = false := by simp; omega
    have a192 : decide ((192 : Int) ≤ c) = true := by simp; omega
    have b214 : decide (c ≤ (214 : Int)) = false := by simp; omega
    have a216 : decide ((216 : Int) ≤ c) = true := by simp; omega
    have b246 : decide (c ≤ (246 : Int)) = false := by simp; omega
    have a248 : decide ((248 : Int) ≤ c) = true := by simp; omega
    have b767 : decide (c ≤ (767 : Int)) = false := by simp; omega
    have a880 : decide ((880 : Int) ≤ c) = true := by simp; omega
    have b893 : decide (c ≤ (893 : Int)) = false := by simp; omega
    have a895 : decide ((895 : Int) ≤ c) = true := by simp; omega
    have b8191 : decide (c ≤ (8191 : Int)) = false := by simp; omega
    have a8304 : decide ((8304 : Int) ≤ c) = true := by simp; omega
    have b8591 : decide (c ≤ (8591 : Int)) = false := by simp; omega
    have a11264 : decide ((11264 : Int) ≤ c) = false := by simp; omega
    have b12271 : decide (c ≤ (12271 : Int)) = true := by simp; omega
    have a12289 : decide ((12289 : Int) ≤ c) = false := by simp; omega
    have b55295 : decide (c ≤ (55295 : Int)) = true := by simp; omega
    have a63744 : decide ((63744 : Int) ≤ c) = false := by simp; omega
    have b64975 : decide (c ≤ (64975 : Int)) = true := by simp; omega
    have a65008 : decide ((65008 : Int) ≤ c) = false := by simp; omega
    have b65533 : decide (c ≤ (65533 : Int)) = true := by simp; omega
    have a65536 : decide ((65536 : Int) ≤ c) = false := by simp; omega
    have b983039 : decide (c ≤ (983039 : Int)) = true := by simp; omega
    have hv : Hid (startB c = false) := by show _ = _; unfold startB; simp; omega
    clear k0 k1 k2 k3 k4 k5 k6 k7 k8 k9 k10 k11 k12 k13 k14 k15 k16 k17 k18 k19 k20 k21
    go_enter Try.func109, Try.ntmps109
    go_wp2_with fail
    go_ret
    exact ⟨by rw [hv.out]; rfl, Below.refl _ _⟩
  rcases Int.lt_or_le c 12272 with k22 | k22
  · have e95 : (c == 95) = false := by simp; omega
    have e8204 : (c == 8204) = false := by simp; omega
    have e8205 : (c == 8205) = false := by simp; omega
    have a65 : decide ((65 : Int) ≤ c) = true := by simp; omega
    have b90 : decide (c ≤ (90 : Int)) = false := by simp; omega
    have a97 : decide ((97 : Int) ≤ c) = true := by simp; omega
    have b122 : decide (c ≤ (122 : Int)) = false := by simp; omega
    have a192 : decide ((192 : Int) ≤ c) = true := by simp; omega
    have b214 : decide (c ≤ (214 : Int)) = false := by simp; omega
    have a216 : decide ((216 : Int) ≤ c) = true := by simp; omega
    have b246 : decide (c ≤ (246 : Int)) = false := by simp; omega
    have a248 : decide ((248 : Int) ≤ c) = true := by simp; omega
    have b767 : decide (c ≤ (767 : Int)) = false := by simp; omega
    have a880 : decide ((880 : Int) ≤ c) = true := by simp; omega
    have b893 : decide (c ≤ (893 : Int)) = false := by simp; omega
    have a895 : decide ((895 : Int) ≤ c) = true := by simp; omega
    have b8191 : decide (c ≤ (8191 : Int)) = false := by simp; omega
    have a8304 : decide ((8304 : Int) ≤ c) = true := by simp; omega
    have b8591 : decide (c ≤ (8591 : Int)) = false := by simp; omega
    have a11264 : decide ((11264 : Int) ≤ c) = true := by simp; omega
    have b12271 : decide (c ≤ (12271 : Int)) = true := by simp; omega
    have a12289 : decide ((12289 : Int) ≤ c) = false := by simp; omega
    have b55295 : decide (c ≤ (55295 : Int)) = true := by simp; omega
    have a63744 : decide ((63744 : Int) ≤ c) = false := by simp; omega
    have b64975 : decide (c ≤ (64975 : Int)) = true := by simp; omega
    have a65008 : decide ((65008 : Int) ≤ c) = false := by simp; omega
    have b65533 : decide (c ≤ (65533 : Int)) = true := by simp; omega
    have a65536 : decide ((65536 : Int) ≤ c) = false := by simp; omega
    have b983039 : decide (c ≤ (983039 : Int)) = true := by simp; omega
    have hv : Hid (startB c = true) := by show _ = _; unfold startB; simp; omega
    clear k0 k1 k2 k3 k4 k5 k6 k7 k8 k9 k10 k11 k12 k13 k14 k15 k16 k17 k18 k19 k20 k21 k22
    go_enter Try.func109, Try.ntmps109
    go_wp2_with fail
    go_ret
    exact ⟨by rw [hv.out]; rfl, Below.refl _ _⟩
  rcases Int.lt_or_le c 12289 with k23 | k23
  · have e95 : (c == 95) = false := by simp; omega
    have e8204 : (c == 8204) = false := by simp; omega
    have e8205 : (c == 8205) = false := by simp; omega
    have a65 : decide ((65 : Int) ≤ c) = true := by simp; omega
    have b90 : decide (c ≤ (90 : Int)) = false := by simp; omega
    have a97 : decide ((97 : Int) ≤ c) = true := by simp; omega
    have b122 : decide (c ≤ (122 : Int)) = false := by simp; omega
    have a192 : decide ((192 : Int) ≤ c) = true := by simp; omega
    have b214 : decide (c ≤ (214 : Int)) = false := by simp; omega
    have a216 : decide ((216 : Int) ≤ c) = true := by simp; omega
    have b246 : decide (c ≤ (246 : Int)) = false := by simp; omega
    have a248 : decide ((248 : Int) ≤ c) = true := by simp; omega
    have b767 : decide (c ≤ (767 : Int)) = false := by simp; omega
    have a880 : decide ((880 : Int) ≤ c) = true := by simp; omega
    have b893 : decide (c ≤ (893 : Int)) = false := by simp; omega
    have a895 : decide ((895 : Int) ≤ c) = true := by simp; omega
    have b8191 : decide (c ≤ (8191 : Int)) = false := by simp; omega
    have a8304 : decide ((8304 : Int) ≤ c) = true := by simp; omega
    have b8591 : decide (c ≤ (8591 : Int)) = false := by simp; omega
    have a11264 : decide ((11264 : Int) ≤ c) = true := by simp; omega
    have b12271 : decide (c ≤ (12271 : Int)) = false := by simp; omega
    have a12289 : decide ((12289 : Int) ≤ c) = false := by simp; omega
    have b55295 : decide (c ≤ (55295 : Int)) = true := by simp; omega
    have a63744 : decide ((63744 : Int) ≤ c) = false := by simp; omega
    have b64975 : decide (c ≤ (64975 : Int)) = true := by simp; omega
    have a65008 : decide ((65008 : Int) ≤ c) = false := by simp; omega
    have b65533 : decide (c ≤ (65533 : Int)) = true := by simp; omega
    have a65536 : decide ((65536 : Int) ≤ c) = false := by simp; omega
    have b983039 : decide (c ≤ (983039 : Int)) = true := by simp; omega
    have hv : Hid (startB c = false) := by show _ = _; unfold startB; simp; omega
    clear k0 k1 k2 k3 k4 k5 k6 k7 k8 k9 k10 k11 k12 k13 k14 k15 k16 k17 k18 k19 k20 k21 k22 k23
    go_enter Try.func109, Try.ntmps109
    go_wp2_with fail
    go_ret
    exact ⟨by rw [hv.out]; rfl, Below.refl _ _⟩
  rcases Int.lt_or_le c 55296 with k24 | k24
  · have e95 : (c == 95) = false := by simp; omega
    have e8204 : (c == 8204) = false := by simp; omega
    have e8205 : (c == 8205) = false := by simp; omega
    have a65 : decide ((65 : Int) ≤ c) = true := by simp; omega
    have b90 : decide (c ≤ (90 : Int)) = false := by simp; omega
    have a97 : decide ((97 : Int) ≤ c) = true := by simp; omega
    have b122 : decide (c ≤ (122 : Int)) = false := by simp; omega
    have a192 : decide ((192 : Int) ≤ c) = true := by simp; omega
    have b214 : decide (c ≤ (214 : Int)) = false := by simp; omega
    have a216 : decide ((216 : Int) ≤ c) = true := by simp; omega
    have b246 : decide (c ≤ (246 : Int)) = false := by simp; omega
    have a248 : decide ((248 : Int) ≤ c) = true := by simp; omega
    have b767 : decide (c ≤ (767 : Int)) = false := by simp; omega
    have a880 : decide ((880 : Int) ≤ c) = true := by simp; omega
    have b893 : decide (c ≤ (893 : Int)) = false := by simp; omega
    have a895 : decide ((895 : Int) ≤ c) = true := by simp; omega
    have b8191 : decide (c ≤ (8191 : Int)) = false := by simp; omega
    have a8304 : decide ((8304 : Int) ≤ c) = true := by simp; omega
    have b8591 : decide (c ≤ (8591 : Int)) = false := by simp; omega
    have a11264 : decide ((11264 : Int) ≤ c) = true := by simp; omega
    have b12271 : decide (c ≤ (12271 : Int)) = false := by simp; omega
    have a12289 : decide ((12289 : Int) ≤ c) = true := by simp; omega
    have b55295 : decide (c ≤ (55295 : Int)) = true := by simp; omega
    have a63744 : decide ((63744 : Int) ≤ c) = false := by simp; omega
    have b64975 : decide (c ≤ (64975 : Int)) = true := by simp; omega
    have a65008 : decide ((65008 : Int) ≤ c) = false := by simp; omega
    have b65533 : decide (c ≤ (65533 : Int)) = true := by simp; omega
    have a65536 : decide ((65536 : Int) ≤ c) = false := by simp; omega
    have b983039 : decide (c ≤ (983039 : Int)) = true := by simp; omega
    have hv : Hid (startB c = true) := by show _ = _; unfold startB; simp; omega
    clear k0 k1 k2 k3 k4 k5 k6 k7 k8 k9 k10 k11 k12 k13 k14 k15 k16 k17 k18 k19 k20 k21 k22 k23 k24
    go_enter Try.func109, Try.ntmps109
    go_wp2_with fail
    go_ret
    exact ⟨by rw [hv.out]; rfl, Below.refl _ _⟩
  rcases Int.lt_or_le c 63744 with k25 | k25
  · have e95 : (c == 95) = false := by simp; omega
    have e8204 : (c == 8204) = false := by simp; omega
    have e8205 : (c == 8205) = false := by simp; omega
    have a65 : decide ((65 : Int) ≤ c) = true := by simp; omega
    have b90 : decide (c ≤ (90 : Int)) = false := by simp; omega
    have a97 : decide ((97 : Int) ≤ c) = true := by simp; omega
    have b122 : decide (c ≤ (122 : Int)) = false := by simp; omega
    have a192 : decide ((192 : Int) ≤ c) = true := by simp; omega
    have b214 : decide (c ≤ (214 : Int)) = false := by simp; omega
    have a216 : decide ((216 : Int) ≤ c) = true := by simp; omega
    have b246 : decide (c ≤ (246 : Int)) = false := by simp; omega
    have a248 : decide ((248 : Int) ≤ c) = true := by simp; omega
    have b767 : decide (c ≤ (767 : Int)) = false := by simp; omega
    have a880 : decide ((880 : Int) ≤ c) = true := by simp; omega
    have b893 : decide (c ≤ (893 : Int)) = false := by simp; omega
    have a895 : decide ((895 : Int) ≤ c) = true := by simp; omega
    have b8191 : decide (c ≤ (8191 : Int)) = false := by simp; omega
    have a8304 : decide ((8304 : Int) ≤ c) = true := by simp; omega
    have b8591 : decide (c ≤ (8591 : Int)) = false := by simp; omega
    have a11264 : decide ((11264 : Int) ≤ c) = true := by simp; omega
    have b12271 : decide (c ≤ (12271 : Int)) = false := by simp; omega
    have a12289 : decide ((12289 : Int) ≤ c) = true := by simp; omega
    have b55295 : decide (c ≤ (55295 : Int)) = false := by simp; omega
    have a63744 : decide ((63744 : Int) ≤ c) = false := by simp; omega
    have b64975 : decide (c ≤ (64975 : Int)) = true := by simp; omega
    have a65008 : decide ((65008 : Int) ≤ c) = false := by simp; omega
    have b65533 : decide (c ≤ (65533 : Int)) = true := by simp; omega
    have a65536 : decide ((65536 : Int) ≤ c) = false := by simp; omega
    have b983039 : decide (c ≤ (983039 : Int)) = true := by simp; omega
    have hv : Hid (startB c = false) := by show _ = _; unfold startB; simp; omega
    clear k0 k1 k2 k3 k4 k5 k6 k7 k8 k9 k10 k11 k12 k13 k14 k15 k16 k17 k18 k19 k20 k21 k22 k23 k24 k25
    go_enter Try.func109, Try.ntmps109
    go_wp2_with fail
    go_ret
    exact ⟨by rw [hv.out]; rfl, Below.refl _ _⟩
  rcases Int.lt_or_le c 64976 with k26 | k26
  · have e95 : (c == 95) = false := by simp; omega
    have e8204 : (c == 8204) = false := by simp; omega
    have e8205 : (c == 8205) = false := by simp; omega
    have a65 : decide ((65 : Int) ≤ c) = true := by simp; omega
    have b90 : decide (c ≤ (90 : Int)) = false := by simp; omega
    have a97 : decide ((97 : Int) ≤ c) = true := by simp; omega
    have b122 : decide (c ≤ (122 : Int)) = false := by simp; omega
    have a192 : decide ((192 : Int) ≤ c) = true := by simp; omega
    have b214 : decide (c ≤ (214 : Int)) = false := by simp; omega
    have a216 : decide ((216 : Int) ≤ c) = true := by simp; omega
    have b246 : decide (c ≤ (246 : Int)) = false := by simp; omega
    have a248 : decide ((248 : Int) ≤ c) = true := by simp; omega
    have b767 : decide (c ≤ (767 : Int)) = false := by simp; omega
    have a880 : decide ((880 : Int) ≤ c) = true := by simp; omega
    have b893 : decide (c ≤ (893 : Int)) = false := by simp; omega
    have a895 : decide ((895 : Int) ≤ c) = true := by simp; omega
    have b8191 : decide (c ≤ (8191 : Int)) = false := by simp; omega
    have a8304 : decide ((8304 : Int) ≤ c) = true := by simp; omega
    have b8591 : decide (c ≤ (8591 : Int)) = false := by simp; omega
    have a11264 : decide ((11264 : Int) ≤ c) = true := by simp; omega
    have b12271 : decide (c ≤ (12271 : Int)) = false := by simp; omega
    have a12289 : decide ((12289 : Int) ≤ c) = true := by simp; omega
    have b55295 : decide (c ≤ (55295 : Int)) = false := by simp; omega
    have a63744 : decide ((63744 : Int) ≤ c) = true := by simp; omega
    have b64975 : decide (c ≤ (64975 : Int)) = true := by simp; omega
    have a65008 : decide ((65008 : Int) ≤ c) = false := by simp; omega
    have b65533 : decide (c ≤ (65533 : Int)) = true := by simp; omega
    have a65536 : decide ((65536 : Int) ≤ c) = false := by simp; omega
    have b983039 : decide (c ≤ (983039 : Int)) = true := by simp; omega
    have hv : Hid (startB c = true) := by show _ = _; unfold startB; simp; omega
    clear k0 k1 k2 k3 k4 k5 k6 k7 k8 k9 k10 k11 k12 k13 k14 k15 k16 k17 k18 k19 k20 k21 k22 k23 k24 k25 k26
    go_enter Try.func109, Try.ntmps109
    go_wp2_with fail
    go_ret
    exact ⟨by rw [hv.out]; rfl, Below.refl _ _⟩
  rcases Int.lt_or_le c 65008 with k27 | k27
  · have e95 : (c == 95) = false := by simp; omega
    have e8204 : (c == 8204) = false := by simp; omega
    have e8205 : (c == 8205) = false := by simp; omega
    have a65 : decide ((65 : Int) ≤ c) = true := by simp; omega
    have b90 : decide (c ≤ (90 : Int)) = false := by simp; omega
    have a97 : decide ((97 : Int) ≤ c) = true := by simp; omega
    have b122 : decide (c ≤ (122 : Int)) = false := by simp; omega
    have a192 : decide ((192 : Int) ≤ c) = true := by simp; omega
    have b214 : decide (c ≤ (214 : Int)) = false := by simp; omega
    have a216 : decide ((216 : Int) ≤ c) = true := by simp; omega
    have b246 : decide (c ≤ (246 : Int)) = false := by simp; omega
    have a248 : decide ((248 : Int) ≤ c) = true := by simp; omega
    have b767 : decide (c ≤ (767 : Int)) = false := by simp; omega
    have a880 : decide ((880 : Int) ≤ c) = true := by simp; omega
    have b893 : decide (c ≤ (893 : Int)) = false := by simp; omega
    have a895 : decide ((895 : Int) ≤ c) = true := by simp; omega
    have b8191 : decide (c ≤ (8191 : Int)) = false := by simp; omega
    have a8304 : decide ((8304 : Int) ≤ c) = true := by simp; omega
    have b8591 : decide (c ≤ (8591 : Int)) = false := by simp; omega
    have a11264 : decide ((11264 : Int) ≤ c) = true := by simp; omega
    have b12271 : decide (c ≤ (12271 : Int)) = false := by simp; omega
    have a12289 : decide ((12289 : Int) ≤ c) = true := by simp; omega
    have b55295 : decide (c ≤ (55295 : Int)) = false := by simp; omega
    have a63744 : decide ((63744 : Int) ≤ c) = true := by simp; omega
    have b64975 : decide (c ≤ (64975 : Int)) = false := by simp; omega
    have a65008 : decide ((65008 : Int) ≤ c) = false := by simp; omega
    have b65533 : decide (c ≤ (65533 : Int)) = true := by simp; omega
    have a65536 : decide ((65536 : Int) ≤ c) = false := by simp; omega
    have b983039 : decide (c ≤ (983039 : Int)) = true := by simp; omega
    have hv : Hid (startB c = false) := by show _ = _; unfold startB; simp; omega
    clear k0 k1 k2 k3 k4 k5 k6 k7 k8 k9 k10 k11 k12 k13 k14 k15 k16 k17 k18 k19 k20 k21 k22 k23 k24 k25 k26 k27
    go_enter Try.func109, Try.ntmps109
    go_wp2_with fail
    go_ret
    exact ⟨by rw [hv.out]; rfl, Below.refl _ _⟩
  rcases Int.lt_or_le c 65534 with k28 | k28
  · have e95 : (c == 95) = false := by simp; omega
    have e8204 : (c == 8204) = false := by simp; omega
    have e8205 : (c == 8205) = false := by simp; omega
    have a65 : decide ((65 : Int) ≤ c) = true := by simp; omega
    have b90 : decide (c ≤ (90 : Int)) = false := by simp; omega
    have a97 : decide ((97 : Int) ≤ c) = true := by simp; omega
    have b122 : decide (c ≤ (122 : Int)) = false := by simp; omega
    have a192 : decide ((192 : Int) ≤ c) = true := by simp; omega
    have b214 : decide (c ≤ (214 : Int)) = false := by simp; omega
    have a216 : decide ((216 : Int) ≤ c) = true := by simp; omega
    have b246 : decide (c ≤ (246 : Int)) = false := by simp; omega
    have a248 : decide ((248 : Int) ≤ c) = true := by simp; omega
    have b767 : decide (c ≤ (767 : Int)) = false := by simp; omega
    have a880 : decide ((880 : Int) ≤ c) = true := by simp; omega
    have b893 : decide (c ≤ (893 : Int)) = false := by simp; omega
    have a895 : decide ((895 : Int) ≤ c) = true := by simp; omega
    have b8191 : decide (c ≤ (8191 : Int)) = false := by simp; omega
    have a8304 : decide ((8304 : Int) ≤ c) = true := by simp; omega
    have b8591 : decide (c ≤ (8591 : Int)) = false := by simp; omega
    have a11264 : decide ((11264 : Int) ≤ c) = true := by simp; omega
    have b12271 : decide (c ≤ (12271 : Int)) = false := by simp; omega
    have a12289 : decide ((12289 : Int) ≤ c) = true := by simp; omega
    have b55295 : decide (c ≤ (55295 : Int)) = false := by simp; omega
    have a63744 : decide ((63744 : Int) ≤ c) = true := by simp; omega
    have b64975 : decide (c ≤ (64975 : Int)) = false := by simp; omega
    have a65008 : decide ((65008 : Int) ≤ c) = true := by simp; omega
    have b65533 : decide (c ≤ (65533 : Int)) = true := by simp; omega
    have a65536 : decide ((65536 : Int) ≤ c) = false := by simp; omega
    have b983039 : decide (c ≤ (983039 : Int)) = true := by simp; omega
    have hv : Hid (startB c = true) := by show _ = _; unfold startB; simp; omega
    clear k0 k1 k2 k3 k4 k5 k6 k7 k8 k9 k10 k11 k12 k13 k14 k15 k16 k17 k18 k19 k20 k21 k22 k23 k24 k25 k26 k27 k28
    go_enter Try.func109, Try.ntmps109
    go_wp2_with fail
    go_ret
    exact ⟨by rw [hv.out]; rfl, Below.refl _ _⟩
  rcases Int.lt_or_le c 65536 with k29 | k29
  · have e95 : (c == 95) = false := by simp; omega
    have e8204 : (c == 8204) = false := by simp; omega
    have e8205 : (c == 8205) = false := by simp; omega
    have a65 : decide ((65 : Int) ≤ c) = true := by simp; omega
    have b90 : decide (c ≤ (90 : Int)) = false := by simp; omega
    have a97 : decide ((97 : Int) ≤ c) = true := by simp; omega
    have b122 : decide (c ≤ (122 : Int)) = false := by simp; omega
    have a192 : decide ((192 : Int) ≤ c) = true := by simp; omega
    have b214 : decide (c ≤ (214 : Int)) = false := by simp; omega
    have a216 : decide ((216 : Int) ≤ c) = true := by simp; omega
    have b246 : decide (c ≤ (246 : Int)) = false := by simp; omega
    have a248 : decide ((248 : Int) ≤ c) = true := by simp; omega
    have b767 : decide (c ≤ (767 : Int)) = false := by simp; omega
    have a880 : decide ((880 : Int) ≤ c) = true := by simp; omega
    have b893 : decide (c ≤ (893 : Int)) = false := by simp; omega
    have a895 : decide ((895 : Int) ≤ c) = true := by simp; omega
    have b8191 : decide (c ≤ (8191 : Int)) = false := by simp; omega
    have a8304 : decide ((8304 : Int) ≤ c) = true := by simp; omega
    have b8591 : decide (c ≤ (8591 : Int)) = false := by simp; omega
    have a11264 : decide ((11264 : Int) ≤ c) = true := by simp; omega
    have b12271 : decide (c ≤ (12271 : Int)) = false := by simp; omega
    have a12289 : decide ((12289 : Int) ≤ c) = true := by simp; omega
    have b55295 : decide (c ≤ (55295 : Int)) = false := by simp; omega
    have a63744 : decide ((63744 : Int) ≤ c) = true := by simp; omega
    have b64975 : decide (c ≤ (64975 : Int)) = false := by simp; omega
    have a65008 : decide ((65008 : Int) ≤ c) = true := by simp; omega
    have b65533 : decide (c ≤ (65533 : Int)) = false := by simp; omega
    have a65536 : decide ((65536 : Int) ≤ c) = false := by simp; omega
    have b983039 : decide (c ≤ (983039 : Int)) = true := by simp; omega
    have hv : Hid (startB c = false) := by show _ = _; unfold startB; simp; omega
    clear k0 k1 k2 k3 k4 k5 k6 k7 k8 k9 k10 k11 k12 k13 k14 k15 k16 k17 k18 k19 k20 k21 k22 k23 k24 k25 k26 k27 k28 k29
    go_enter Try.func109, Try.ntmps109
    go_wp2_with fail
    go_ret
    exact ⟨by rw [hv.out]; rfl, Below.refl _ _⟩
  rcases Int.lt_or_le c 983040 with k30 | k30
  · have e95 : (c == 95) = false := by simp; omega
    have e8204 : (c == 8204) = false := by simp; omega
    have e8205 : (c == 8205) = false := by simp; omega
    have a65 : decide ((65 : Int) ≤ c) = true := by simp; omega
    have b90 : decide (c ≤ (90 : Int)) = false := by simp; omega
    have a97 : decide ((97 : Int) ≤ c) = true := by simp; omega
    have b122 : decide (c ≤ (122 : Int)) = false := by simp; omega
    have a192 : decide ((192 : Int) ≤ c) = true := by simp; omega
    have b214 : decide (c ≤ (214 : Int)) = false := by simp; omega
    have a216 : decide ((216 : Int) ≤ c) = true := by simp; omega
    have b246 : decide (c ≤ (246 : Int)) = false := by simp; omega
    have a248 : decide ((248 : Int) ≤ c) = true := by simp; omega
    have b767 : decide (c ≤ (767 : Int)) = false := by simp; omega
    have a880 : decide ((880 : Int) ≤ c) = true := by simp; omega
    have b893 : decide (c ≤ (893 : Int)) = false := by simp; omega
    have a895 : decide ((895 : Int) ≤ c) = true := by simp; omega
    have b8191 : decide (c ≤ (8191 : Int)) = false := by simp; omega
    have a8304 : decide ((8304 : Int) ≤ c) = true := by simp; omega
    have b8591 : decide (c ≤ (8591 : Int)) = false := by simp; omega
    have a11264 : decide ((11264 : Int) ≤ c) = true := by simp; omega
    have b12271 : decide (c ≤ (12271 : Int)) = false := by simp; omega
    have a12289 : decide ((12289 : Int) ≤ c) = true := by simp; omega
    have b55295 : decide (c ≤ (55295 : Int)) = false := by simp; omega
    have a63744 : decide ((63744 : Int) ≤ c) = true := by simp; omega
    have b64975 : decide (c ≤ (64975 : Int)) = false := by simp; omega
    have a65008 : decide ((65008 : Int) ≤ c) = true := by simp; omega
    have b65533 : decide (c ≤ (65533 : Int)) = false := by simp; omega
    have a65536 : decide ((65536 : Int) ≤ c) = true := by simp; omega
    have b983039 : decide (c ≤ (983039 : Int)) = true := by simp; omega
    have hv : Hid (startB c = true) := by show _ = _; unfold startB; simp; omega
    clear k0 k1 k2 k3 k4 k5 k6 k7 k8 k9 k10 k11 k12 k13 k14 k15 k16 k17 k18 k19 k20 k21 k22 k23 k24 k25 k26 k27 k28 k29 k30
    go_enter Try.func109, Try.ntmps109
    go_wp2_with fail
    go_ret
    exact ⟨by rw [hv.out]; rfl, Below.refl _ _⟩
  have e95 : (c == 95) = false := by simp; omega
  have e8204 : (c == 8204) = false := by simp; omega
  have e8205 : (c == 8205) = false := by simp; omega
  have a65 : decide ((65 : Int) ≤ c) = true := by simp; omega
  have b90 : decide (c ≤ (90 : Int)) = false := by simp; omega
  have a97 : decide ((97 : Int) ≤ c) = true := by simp; omega
  have b122 : decide (c ≤ (122 : Int)) = false := by simp; omega
  have a192 : decide ((192 : Int) ≤ c) = true := by simp; omega
  have b214 : decide (c ≤ (214 : Int)) = false := by simp; omega
  have a216 : decide ((216 : Int) ≤ c) = true := by simp; omega
  have b246 : decide (c ≤ (246 : Int)) = false := by simp; omega
  have a248 : decide ((248 : Int) ≤ c) = true := by simp; omega
  have b767 : decide (c ≤ (767 : Int)) = false := by simp; omega
  have a880 : decide ((880 : Int) ≤ c) = true := by simp; omega
  have b893 : decide (c ≤ (893 : Int)) = false := by simp; omega
  have a895 : decide ((895 : Int) ≤ c) = true := by simp; omega
  have b8191 : decide (c ≤ (8191 : Int)) = false := by simp; omega
  have a8304 : decide ((8304 : Int) ≤ c) = true := by simp; omega
  have b8591 : decide (c ≤ (8591 : Int)) = false := by simp; omega
  have a11264 : decide ((11264 : Int) ≤ c) = true := by simp; omega
  have b12271 : decide (c ≤ (12271 : Int)) = false := by simp; omega
  have a12289 : decide ((12289 : Int) ≤ c) = true := by simp; omega
  have b55295 : decide (c ≤ (55295 : Int)) = false := by simp; omega
  have a63744 : decide ((63744 : Int) ≤ c) = true := by simp; omega
  have b64975 : decide (c ≤ (64975 : Int)) = false := by simp; omega
  have a65008 : decide ((65008 : Int) ≤ c) = true := by simp; omega
  have b65533 : decide (c ≤ (65533 : Int)) = false := by simp; omega
  have a65536 : decide ((65536 : Int) ≤ c) = true := by simp; omega
  have b983039 : decide (c ≤ (983039 : Int)) = false := by simp; omega
  have hv : Hid (startB c = false) := by show _ = _; unfold startB; simp; omega
  clear k0 k1 k2 k3 k4 k5 k6 k7 k8 k9 k10 k11 k12 k13 k14 k15 k16 k17 k18 k19 k20 k21 k22 k23 k24 k25 k26 k27 k28 k29 k30
  go_enter Try.func109, Try.ntmps109
  go_wp2_with fail
  go_ret
  exact ⟨by rw [hv.out]; rfl, Below.refl _ _⟩

theorem RStart_as (c : Int) (w : World) (r : Bool) (h : Hid (startB c = r)) : Calls Try.prog 109 #[.int .i32 c] w (Ret w (.bool r)) := by
  rw [← h.out]; exact RStart_any c w

set_option maxRecDepth 100000 in
set_option maxHeartbeats 4000000 in
theorem RPart_any (c : Int) (w : World) : Calls Try.prog 110 #[.int .i32 c] w (Ret w (.bool (partB c))) := by
  obtain ⟨b, hb⟩ : ∃ b, Hid (startB c = b) := ⟨_, rfl⟩
  cases b with
  | true =>
    have hv : Hid (partB c = true) := by show _ = _; unfold partB; rw [hb.out]; rfl
    go_enter Try.func110, Try.ntmps110
    go_wp2_with fail
    refine (RStart_as c _ _ hb).mono ?_; rintro e w2 ⟨rfl, hb2⟩
    go_wp2_with fail
    go_ret
    exact ⟨by rw [hv.out]; rfl, hb2⟩
  | false =>
    rcases Int.lt_or_le c 45 with k0 | k0
    · have e45 : (c == 45) = false := by simp; omega
      have e46 : (c == 46) = false := by simp; omega
      have e183 : (c == 183) = false := by simp; omega
      have e8255 : (c == 8255) = false := by simp; omega
      have e8256 : (c == 8256) = false := by simp; omega
      have a48 : decide ((48 : Int) ≤ c) = false := by simp; omega
      have b57 : decide (c ≤ (57 : Int)) = true := by simp; omega
      have a768 : decide ((768 : Int) ≤ c) = false := by simp; omega
      have b879 : decide (c ≤ (879 : Int)) = true := by simp; omega
      have hv : Hid (partB c = startB c) := by show _ = _; unfold partB; rw [Bool.or_eq_left_iff_imp]; simp; omega
      clear k0
      go_enter Try.func110, Try.ntmps110
      go_wp2_with fail
      refine (RStart_as c _ _ hb).mono ?_; rintro e w2 ⟨rfl, hb2⟩
      go_wp2_with fail
      go_ret
      exact ⟨by rw [hv.out]; first | rfl | (rw [hb.out]; rfl), hb2⟩
    rcases Int.lt_or_le c 46 with k1 | k1
    · have e45 : (c == 45) = true := by simp; omega
      have e46 : (c == 46) = false := by simp; omega
      have e183 : (c == 183) = false := by simp; omega
      have e8255 : (c == 8255) = false := by simp; omega
      have e8256 : (c == 8256) = false := by simp; omega
      have a48 : decide ((48 : Int) ≤ c) = false := by simp; omega
      have b57 : decide (c ≤ (57 : Int)) = true := by simp; omega
      have a768 : decide ((768 : Int) ≤ c) = false := by simp; omega
      have b879 : decide (c ≤ (879 : Int)) = true := by simp; omega
      have hv : Hid (partB c = true) := by show _ = _; unfold partB; simp; right; omega
      clear k0 k1
      go_enter Try.func110, Try.ntmps110
      go_wp2_with fail
      refine (RStart_as c _ _ hb).mono ?_; rintro e w2 ⟨rfl, hb2⟩
      go_wp2_with fail
      go_ret
      exact ⟨by rw [hv.out]; first | rfl | (rw [hb.out]; rfl), hb2⟩
    rcases Int.lt_or_le c 47 with k2 | k2
    · have e45 : (c == 45) = false := by simp; omega
      have e46 : (c == 46) = true := by simp; omega
      have e183 : (c == 183) = false := by simp; omega
      have e8255 : (c == 8255) = false := by simp; omega
      have e8256 : (c == 8256) = false := by simp; omega
      have a48 : decide ((48 : Int) ≤ c) = false := by simp; omega
      have b57 : decide (c ≤ (57 : Int)) = true := by simp; omega
      have a768 : decide ((768 : Int) ≤ c) = false := by simp; omega
      have b879 : decide (c ≤ (879 : Int)) = true := by simp; omega
      have hv : Hid (partB c = true) := by show _ = _; unfold partB; simp; right; omega
      clear k0 k1 k2
      go_enter Try.func110, Try.ntmps110
      go_wp2_with fail
      refine (RStart_as c _ _ hb).mono ?_; rintro e w2 ⟨rfl, hb2⟩
      go_wp2_with fail
      go_ret
      exact ⟨by rw [hv.out]; first | rfl | (rw [hb.out]; rfl), hb2⟩
    rcases Int.lt_or_le c 48 with k3 | k3
    · have e45 : (c == 45) = false := by simp; omega
      have e46 : (c == 46) = false := by simp; omega
      have e183 : (c == 183) = false := by simp; omega
      have e8255 : (c == 8255) = false := by simp; omega
      have e8256 : (c == 8256) = false := by simp; omega
      have a48 : decide ((48 : Int) ≤ c) = false := by simp; omega
      have b57 : decide (c ≤ (57 : Int)) = true := by simp; omega
      have a768 : decide ((768 : Int) ≤ c) = false := by simp; omega
      have b879 : decide (c ≤ (879 : Int)) = true := by simp; omega
      have hv : Hid (partB c = startB c) := by show _ = _; unfold partB; rw [Bool.or_eq_left_iff_imp]; simp; omega
      clear k0 k1 k2 k3
      go_enter Try.func110, Try.ntmps110
      go_wp2_with fail
      refine (RStart_as c _ _ hb).mono ?_; rintro e w2 ⟨rfl, hb2⟩
      go_wp2_with fail
      go_ret
      exact ⟨by rw [hv.out]; first | rfl | (rw [hb.out]; rfl), hb2⟩
    rcases Int.lt_or_le c 58 with k4 | k4
    · have e45 : (c == 45) = false := by simp; omega
      have e46 : (c == 46) = false := by simp; omega
      have e183 : (c == 183) = false := by simp; omega
      have e8255 : (c == 8255) = false := by simp; omega
      have e8256 : (c == 8256) = false := by simp; omega
      have a48 : decide ((48 : Int) ≤ c) = true := by simp; omega
      have b57 : decide (c ≤ (57 : Int)) = true := by simp; omega
      have a768 : decide ((768 : Int) ≤ c) = false := by simp; omega
      have b879 : decide (c ≤ (879 : Int)) = true := by simp; omega
      have hv : Hid (partB c = true) := by show _ = _; unfold partB; simp; right; omega
      clear k0 k1 k2 k3 k4
      go_enter Try.func110, Try.ntmps110
      go_wp2_with fail
      refine (RStart_as c _ _ hb).mono ?_; rintro e w2 ⟨rfl, hb2⟩
      go_wp2_with fail
      go_ret
      exact ⟨by rw [hv.out]; first | rfl | (rw [hb.out]; rfl), hb2⟩
    rcases Int.lt_or_le c 183 with k5 | k5
    · have e45 : (c == 45) = false := by simp; omega
      have e46 : (c == 46) = false := by simp; omega
      have e183 : (c == 183) = false := by simp; omega
      have e8255 : (c == 8255) = false := by simp; omega
      have e8256 : (c == 8256) = false := by simp; omega
      have a48 : decide ((48 : Int) ≤ c) = true := by simp; omega
      have b57 : decide (c ≤ (57 : Int)) = false := by simp; omega
      have a768 : decide ((768 : Int) ≤ c) = false := by simp; omega
      have b879 : decide (c ≤ (879 : Int)) = true := by simp; omega
      have hv : Hid (partB c = startB c) := by show _ = _; unfold partB; rw [Bool.or_eq_left_iff_imp]; simp; omega
      clear k0 k1 k2 k3 k4 k5
      go_enter Try.func110, Try.ntmps110
      go_wp2_with fail
      refine (RStart_as c _ _ hb).mono ?_; rintro e w2 ⟨rfl, hb2⟩
      go_wp2_with fail
      go_ret
      exact ⟨by rw [hv.out]; first | rfl | (rw [hb.out]; rfl), hb2⟩
    rcases Int.lt_or_le c 184 with k6 | k6
    · have e45 : (c == 45) = false := by simp; omega
      have e46 : (c == 46) = false := by simp; omega
      have e183 : (c == 183) = true := by simp; omega
      have e8255 : (c == 8255) = false := by simp; omega
      have e8256 : (c == 8256) = false := by simp; omega
      have a48 : decide ((48 : Int) ≤ c) = true := by simp; omega
      have b57 : decide (c ≤ (57 : Int)) = false := by simp; omega
      have a768 : decide ((768 : Int) ≤ c) = false := by simp; omega
      have b879 : decide (c ≤ (879 : Int)) = true := by simp; omega
      have hv : Hid (partB c = true) := by show _ = _; unfold partB; simp; right; omega
      clear k0 k1 k2 k3 k4 k5 k6
      go_enter Try.func110, Try.ntmps110
      go_wp2_with fail
      refine (RStart_as c _ _ hb).mono ?_; rintro e w2 ⟨rfl, hb2⟩
      go_wp2_with fail
      go_ret
      exact ⟨by rw [hv.out]; first | rfl | (rw [hb.out]; rfl), hb2⟩
    rcases Int.lt_or_le c 768 with k7 | k7
    · have e45 : (c == 45) = false := by simp; omega
      have e46 : (c == 46) = false := by simp; omega
      have e183 : (c == 183) = false := by simp; omega
      have e8255 : (c == 8255) = false := by simp; omega
      have e8256 : (c == 8256) = false := by simp; omega
      have a48 : decide ((48 : Int) ≤ c) = true := by simp; omega
      have b57 : decide (c ≤ (57 : Int)) = false := by simp; omega
      have a768 : decide ((768 : Int) ≤ c) = false := by simp; omega
      have b879 : decide (c ≤ (879 : Int)) = true := by simp; omega
      have hv : Hid (partB c = startB c) := by show _ = _; unfold partB; rw [Bool.or_eq_left_iff_imp]; simp; omega
      clear k0 k1 k2 k3 k4 k5 k6 k7
      go_enter Try.func110, Try.ntmps110
      go_wp2_with fail
      refine (RStart_as c _ _ hb).mono ?_; rintro e w2 ⟨rfl, hb2⟩
      go_wp2_with fail
      go_ret
      exact ⟨by rw [hv.out]; first | rfl | (rw [hb.out]; rfl), hb2⟩
    rcases Int.lt_or_le c 880 with k8 | k8
    · have e45 : (c == 45) = false := by simp; omega
      have e46 : (c == 46) = false := by simp; omega
      have e183 : (c == 183) = false := by simp; omega
      have e8255 : (c == 8255) = false := by simp; omega
      have e8256 : (c == 8256) = false := by simp; omega
      have a48 : decide ((48 : Int) ≤ c) = true := by simp; omega
      have b57 : decide (c ≤ (57 : Int)) = false := by simp; omega
      have a768 : decide ((768 : Int) ≤ c) = true := by simp; omega
      have b879 : decide (c ≤ (879 : Int)) = true := by simp; omega
      have hv : Hid (partB c = true) := by show _ = _; unfold partB; simp; right; omega
      clear k0 k1 k2 k3 k4 k5 k6 k7 k8
      go_enter Try.func110, Try.ntmps110
      go_wp2_with fail
      refine (RStart_as c _ _ hb).mono ?_; rintro e w2 ⟨rfl, hb2⟩
      go_wp2_with fail
      go_ret
      exact ⟨by rw [hv.out]; first | rfl | (rw [hb.out]; rfl), hb2⟩
    rcases Int.lt_or_le c 8255 with k9 | k9
    · have e45 : (c == 45) = false := by simp; omega
      have e46 : (c == 46) = false := by simp; omega
      have e183 : (c == 183) = false := by simp; omega
      have e8255 : (c == 8255) = false := by simp; omega
      have e8256 : (c == 8256) = false := by simp; omega
      have a48 : decide ((48 : Int) ≤ c) = true := by simp; omega
      have b57 : decide (c ≤ (57 : Int)) = false := by simp; omega
      have a768 : decide ((768 : Int) ≤ c) = true := by simp; omega
      have b879 : decide (c ≤ (879 : Int)) = false := by simp; omega
      have hv : Hid (partB c = startB c) := by show _ = _; unfold partB; rw [Bool.or_eq_left_iff_imp]; simp; omega
      clear k0 k1 k2 k3 k4 k5 k6 k7 k8 k9
      go_enter Try.func110, Try.ntmps110
      go_wp2_with fail
      refine (RStart_as c _ _ hb).mono ?_; rintro e w2 ⟨rfl, hb2⟩
      go_wp2_with fail
      go_ret
      exact ⟨by rw [hv.out]; first | rfl | (rw [hb.out]; rfl), hb2⟩
    rcases Int.lt_or_le c 8256 with k10 | k10
    · have e45 : (c == 45) = false := by simp; omega
      have e46 : (c == 46) = false := by simp; omega
      have e183 : (c == 183) = false := by simp; omega
      have e8255 : (c == 8255) = true := by simp; omega
      have e8256 : (c == 8256) = false := by simp; omega
      have a48 : decide ((48 : Int) ≤ c) = true := by simp; omega
      have b57 : decide (c ≤ (57 : Int)) = false := by simp; omega
      have a768 : decide ((768 : Int) ≤ c) = true := by simp; omega
      have b879 : decide (c ≤ (879 : Int)) = false := by simp; omega
      have hv : Hid (partB c = true) := by show _ = _; unfold partB; simp; right; omega
      clear k0 k1 k2 k3 k4 k5 k6 k7 k8 k9 k10
      go_enter Try.func110, Try.ntmps110
      go_wp2_with fail
      refine (RStart_as c _ _ hb).mono ?_; rintro e w2 ⟨rfl, hb2⟩
      go_wp2_with fail
      go_ret
      exact ⟨by rw [hv.out]; first | rfl | (rw [hb.out]; rfl), hb2⟩
    rcases Int.lt_or_le c 8257 with k11 | k11
    · have e45 : (c == 45) = false := by simp; omega
      have e46 : (c == 46) = false := by simp; omega
      have e183 : (c == 183) = false := by simp; omega
      have e8255 : (c == 8255) = false := by simp; omega
      have e8256 : (c == 8256) = true := by simp; omega
      have a48 : decide ((48 : Int) ≤ c) = true := by simp; omega
      have b57 : decide (c ≤ (57 : Int)) = false := by simp; omega
      have a768 : decide ((768 : Int) ≤ c) = true := by simp; omega
      have b879 : decide (c ≤ (879 : Int)) = false := by simp; omega
      have hv : Hid (partB c = true) := by show _ = _; unfold partB; simp; right; omega
      clear k0 k1 k2 k3 k4 k5 k6 k7 k8 k9 k10 k11
      go_enter Try.func110, Try.ntmps110
      go_wp2_with fail
      refine (RStart_as c _ _ hb).mono ?_; rintro e w2 ⟨rfl, hb2⟩
      go_wp2_with fail
      go_ret
      exact ⟨by rw [hv.out]; first | rfl | (rw [hb.out]; rfl), hb2⟩
    have e45 : (c == 45) = false := by simp; omega
    have e46 : (c == 46) = false := by simp; omega
    have e183 : (c == 183) = false := by simp; omega
    have e8255 : (c == 8255) = false := by simp; omega
    have e8256 : (c == 8256) = false := by simp; omega
    have a48 : decide ((48 : Int) ≤ c) = true := by simp; omega
    have b57 : decide (c ≤ (57 : Int)) = false := by simp; omega
    have a768 : decide ((768 : Int) ≤ c) = true := by simp; omega
    have b879 : decide (c ≤ (879 : Int)) = false := by simp; omega
    have hv : Hid (partB c = startB c) := by show _ = _; unfold partB; rw [Bool.or_eq_left_iff_imp]; simp; omega
    clear k0 k1 k2 k3 k4 k5 k6 k7 k8 k9 k10 k11
    go_enter Try.func110, Try.ntmps110
    go_wp2_with fail
    refine (RStart_as c _ _ hb).mono ?_; rintro e w2 ⟨rfl, hb2⟩
    go_wp2_with fail
    go_ret
    exact ⟨by rw [hv.out]; first | rfl | (rw [hb.out]; rfl), hb2⟩

theorem RPart_as (c : Int) (w : World) (r : Bool) (h : Hid (partB c = r)) : Calls Try.prog 110 #[.int .i32 c] w (Ret w (.bool r)) := by
  rw [← h.out]; exact RPart_any c w
end Go.Proofs.Ythifddkmbjnncaa

/-
  The walk of ref01.Name.
-/
namespace Go.Proofs.Ythifddkmbjnncaa
open Go.RowKit

set_option maxRecDepth 100000 in
set_option maxHeartbeats 1000000 in
theorem RName_any (s : ByteArray) (w : World) (hs : s.size ≤ 1000000000) (r : Bool) (hr : Hid (nameL s.data.toList = r)) :
    Calls Try.prog 89 #[.string s] w (Ret w (.bool r)) := by
  obtain ⟨q, hq⟩ : ∃ q, Hid (charsL s.data.toList = q) := ⟨_, rfl⟩
  have hr' := hr.out
  unfold nameL at hr'
  rw [hq.out, size_toList] at hr'
  cases q with
  | none =>
    have hv : Hid (r = false) := hr'.symm
    clear hr'
    go_enter Try.func89, Try.ntmps89
    go_wp2_with fail
    refine (RAll_any s w hs).mono ?_
    rw [hq.out]
    rintro e w2 ⟨ad, cp, rfl, hown, hb2⟩
    clear hown
    go_wp2_with fail
    go_ret
    exact ⟨by rw [hv.out]; rfl, hb2⟩
  | some cs =>
    cases cs with
    | nil =>
      have hv : Hid (r = false) := hr'.symm
      clear hr'
      have hnil : s.data.toList = [] := by
        by_cases hl : s.data.toList = []
        · exact hl
        · exfalso
          have hc := hq.out
          by_cases hn : (nextL s.data.toList).2 = 0
          · rw [charsL_bad _ hl hn] at hc; cases hc
          · rw [charsL_step _ hl hn] at hc
            cases hd : charsL (s.data.toList.drop (nextL s.data.toList).2) <;> rw [hd] at hc <;> simp at hc
      have hsz : (s.size : Int) < 1 := by rw [← size_toList, hnil]; decide
      clear hnil
      go_enter Try.func89, Try.ntmps89
      go_wp2_with fail
      refine (RAll_any s w hs).mono ?_
      rw [hq.out]
      rintro e w2 ⟨ad, cp, rfl, hown, hb2⟩
      clear hown
      go_wp2_with fail
      go_ret
      exact ⟨by rw [hv.out]; rfl, hb2⟩
    | cons c cs =>
      have hne : s.data.toList ≠ [] := by intro h; have := hq.out; rw [h, charsL_nil] at this; cases this
      have hpos : s.size ≠ 0 := by intro h; apply hne; exact List.eq_nil_of_length_eq_zero (by rw [size_toList]; exact h)
      have hcl : cs.length + 1 ≤ s.size := by have := charsL_len _ _ hq.out; rw [size_toList] at this; exact this
      have h1 : decide ((s.size : Int) < 1) = false := by simp; omega
      clear hne
      by_cases h60 : s.size ≤ 60
      · have h2 : decide ((60 : Int) < s.size) = false := by simp; omega
        simp only [h60, decide_true, Bool.true_and] at hr'
        clear h60 hpos
        cases hst : startB c with
        | false =>
          have HST : Hid (startB c = false) := hst
          have hv : Hid (r = false) := by show _ = _; rw [← hr', hst]; rfl
          clear hr' hst
          go_enter Try.func89, Try.ntmps89
          go_wp2_with fail
          refine (RAll_any s w hs).mono ?_
          rw [hq.out]
          rintro e w2 ⟨ad, cp, rfl, hown, hb2⟩
          have hz2 := hb2.size
          rcases own_shape hown with ⟨rfl, hn0, rfl⟩ | ⟨g, rfl, hg1, hg2⟩
          · cases hn0
          · have hcell : w2.cell? ⟨g, 0, none⟩ = some (.int .i32 c) := own_cell hown 0 _ rfl
            have hlen : ((Option.getD (some (c :: cs)) []).length) = cs.length + 1 := rfl
            clear hown
            rw [hlen]
            go_wp2_with fail
            refine (RStart_as c _ _ HST).mono ?_; rintro e w3 ⟨rfl, hb3⟩
            go_wp2_with fail
            go_ret
            exact ⟨by rw [hv.out]; rfl, hb2.trans (hb3.mono hz2)⟩
        | true =>
          have HST : Hid (startB c = true) := hst
          have hv : Hid ((c :: cs).all partB = r) := by show _ = _; rw [← hr', hst]; rfl
          clear hr' hst
          go_enter Try.func89, Try.ntmps89
          go_wp2_with fail
          refine (RAll_any s w hs).mono ?_
          rw [hq.out]
          rintro e w2 ⟨ad, cp, rfl, hown, hb2⟩
          have hz2 := hb2.size
          rcases own_shape hown with ⟨rfl, hn0, rfl⟩ | ⟨g, rfl, hg1, hg2⟩
          · cases hn0
          · have hcell : w2.cell? ⟨g, 0, none⟩ = some (.int .i32 c) := own_cell hown 0 _ rfl
            have hlen : ((Option.getD (some (c :: cs)) []).length) = cs.length + 1 := rfl
            have HOWN := Lib.hid hown
            clear hown
            rw [hlen]
            go_wp2_with fail
            refine (RStart_as c _ _ HST).mono ?_; rintro e w3 ⟨rfl, hb3⟩
            have hz3 := hb3.size
            go_wp2_with fail
            obtain ⟨L, hL⟩ : ∃ L, Hid (L = c :: cs) := ⟨_, rfl⟩
            have hLl : L.length = cs.length + 1 := by rw [hL.out]; rfl
            go_loopw [5] (fun i wr => ∃ (k : Nat), k ≤ cs.length + 1 ∧ i = .int .i64 k ∧ Hid ((L.drop k).all partB = r) ∧ Below w2.heap.size w2 wr) (fun i _ => cs.length + 1 - (intOf i).toNat)
            case atStart => exact ⟨0, Nat.zero_le _, rfl, by show _ = _; rw [hL.out]; exact hv.out, hb3⟩
            case round =>
              obtain ⟨k, hk, rfl, hall, hbel⟩ := hrel
              have hzr := hbel.size
              by_cases hlt : k < cs.length + 1
              · obtain ⟨d, hd⟩ : ∃ d, Hid (L[k]? = some d) := ⟨L[k], List.getElem?_eq_getElem _⟩
                have hcell : wr.cell? ⟨g, k, none⟩ = some (.int .i32 d) := by
                  rw [hbel.cell (p := ⟨g, k, none⟩) hg2]
                  refine own_cell HOWN.out k _ ?_
                  show ((c :: cs).map (Value.int .i32))[k]? = _
                  rw [List.getElem?_map, ← hL.out, hd.out]; rfl
                have hdrop : L.drop k = d :: L.drop (k + 1) := by
                  have h := hd.out
                  have hl : k < L.length := by omega
                  rw [List.drop_eq_getElem_cons hl]
                  rw [List.getElem?_eq_getElem hl] at h
                  injection h with h; rw [h]
                have hall' : (partB d && (L.drop (k + 1)).all partB) = r := by rw [← hall.out, hdrop]; rfl
                clear hdrop
                cases hp : partB d with
                | false =>
                  have HP : Hid (partB d = false) := hp
                  have hv : Hid (r = false) := by show _ = _; rw [← hall', hp]; rfl
                  clear hall' hp
                  go_wp2_with fail
                  refine (RPart_as d _ _ HP).mono ?_; rintro e w4 ⟨rfl, hb4⟩
                  go_wp2_with fail
                  go_ret
                  exact ⟨by rw [hv.out]; rfl, (hb2.trans (hbel.mono (by omega))).trans (hb4.mono (by omega))⟩
                | true =>
                  have HP : Hid (partB d = true) := hp
                  have hv : Hid ((L.drop (k + 1)).all partB = r) := by show _ = _; rw [← hall', hp]; rfl
                  clear hall' hp
                  go_wp2_with fail
                  refine (RPart_as d _ _ HP).mono ?_; rintro e w4 ⟨rfl, hb4⟩
                  go_wp2_with fail
                  go_roundw
                  case rel => exact ⟨k + 1, by omega, by go_num, hv, hbel.trans (hb4.mono (by omega))⟩
                  case measure => simp [intOf]; omega
              · have hk' : k = cs.length + 1 := by omega
                have hv : Hid (r = true) := by
                  show _ = _
                  rw [← hall.out, List.drop_eq_nil_of_le (by omega)]; rfl
                subst hk'
                go_wp2_with fail
                go_ret
                exact ⟨by rw [hv.out]; rfl, hb2.trans (hbel.mono (by omega))⟩
      · have h2 : decide ((60 : Int) < s.size) = true := by simp; omega
        have hv : Hid (r = false) := by show _ = _; rw [← hr']; simp [h60]
        clear hr' h60 hpos
        go_enter Try.func89, Try.ntmps89
        go_wp2_with fail
        refine (RAll_any s w hs).mono ?_
        rw [hq.out]
        rintro e w2 ⟨ad, cp, rfl, hown, hb2⟩
        clear hown
        go_wp2_with fail
        go_ret
        exact ⟨by rw [hv.out]; rfl, hb2⟩
end Go.Proofs.Ythifddkmbjnncaa

/-
  The reader of tokens: the walks of text and end.
-/
namespace Go.Proofs.Ythifddkmbjnncaa
open Go.RowKit

/-- a reader that has read nothing of a token -/
def Rdr.new (s : ByteArray) (pos place : Nat) : Rdr := ⟨s, pos, 0, place, [], [], none, 0, 0, 0, 0⟩
/-- what a method that reads a token leaves, the places counted from where the reader stood -/
def TokPost (w : World) (B b : Nat) (s : ByteArray) (pos place : Nat) (V : Told TokD) (e : Ending) (w' : World) : Prop :=
  Below B w w' ∧ match V with
  | .ok t n => e = .returned (.bool true) ∧ ∃ A c, RdAt w' b ⟨s, pos + n, t.kind, place, t.name, t.text, A, t.attrs.length, c, 0, 0⟩ ∧ AttrsOwn w' B A c t.attrs
  | .bad k c => e = .returned (.bool false) ∧ ∃ R : Rdr, RdAt w' b R ∧ R.bad = ((pos + k : Nat) : Int) ∧ R.code = c

theorem below_of_grown {w w' : World} {B b : Nat} (hg : w.grownBy w' (some b)) (hb : B ≤ b) (hw : B ≤ w.heap.size) : Below B w w' :=
  (Below.refl B w).grown hg hw (fun k hk => by injection hk with hk; omega)

theorem idx_not (c : UInt8) : ∀ l : List UInt8, (l.takeWhile (· != c)).length = l.length → Lib.indexByte l c = -1
  | [], _ => rfl
  | a :: l, h => by
    rw [List.takeWhile_cons] at h
    by_cases ha : a = c
    · subst ha; simp at h
    · have hb : (a != c) = true := by simpa using ha
      rw [if_pos hb] at h
      simp only [List.length_cons] at h
      rw [Lib.indexByte, idx_not c l (by omega)]
      simp [ha]
theorem idx_yes (c : UInt8) : ∀ l : List UInt8, (l.takeWhile (· != c)).length ≠ l.length → Lib.indexByte l c = ((l.takeWhile (· != c)).length : Nat)
  | [], h => absurd rfl h
  | a :: l, h => by
    rw [List.takeWhile_cons] at h ⊢
    by_cases ha : a = c
    · subst ha; simp [Lib.indexByte]
    · have hb : (a != c) = true := by simpa using ha
      rw [if_pos hb] at h ⊢
      simp only [List.length_cons] at h ⊢
      rw [Lib.indexByte, idx_yes c l (by omega)]
      have : ((((l.takeWhile (· != c)).length : Nat) : Int) == -1) = false := by simp
      simp [ha, this]

theorem textT_of {l t u : List UInt8} {n : Nat} {e : Int} (ht : l.takeWhile (· != 60) = t) (hu : undoL false t = (u, n, e)) :
    textT l = if e ≠ 0 then .bad n e else if 1500 < u.length then .bad 0 34 else .ok ⟨4, [], u, []⟩ t.length := by
  unfold textT
  simp only [ht, hu]

theorem undone_at (b : Nat) (r : Rdr) (w : World) (h : RdAt w b r) (i j : Nat) (hij : i ≤ j) (hj : j ≤ r.s.size) (hs : r.s.size ≤ 1000000000) (v : Bool) (V : List UInt8 × Nat × Int) (hV : Hid (undoL v ((r.s.data.toList.drop i).take (j - i)) = V)) (jI : Int) (hjI : Hid (jI = j)) :
    Calls Try.prog 67 #[.pointer (some ⟨b, 0, none⟩), .int .i64 i, .int .i64 jI, .bool v] w (RdPost w b (if V.2.2 = 0 then r else { r with bad := (i : Int) + V.2.1, code := V.2.2 }) (.tuple #[.string ⟨(if V.2.2 = 0 then V.1 else []).toArray⟩, .bool (decide (V.2.2 = 0))])) := by
  have e := hjI.out
  subst e
  exact undone_any b r w h i j hij hj hs v V hV




set_option maxRecDepth 100000 in
set_option maxHeartbeats 1000000 in
theorem text_any (b B : Nat) (s : ByteArray) (pos place : Nat) (w : World) (h : RdAt w b (Rdr.new s pos place)) (hB : B ≤ b) (hBw : B ≤ w.heap.size) (hp : pos ≤ s.size) (hs : s.size ≤ 1000000000) (V : Told TokD) (hV : Hid (textT (s.data.toList.drop pos) = V)) :
    Calls Try.prog 40 #[.pointer (some ⟨b, 0, none⟩)] w (TokPost w B b s pos place V) := by
  have HR : Hid (RdAt w.drew b (Rdr.new s pos place)) := h.drew
  have HL := Lib.hid (size_toList s)
  have hx : Hid ((s.extract pos s.size).data.toList = s.data.toList.drop pos) := Lib.extract_to_end _ _
  have HS : Hid (w.drew.cell? ⟨b, 0, none⟩ = some (.string s) ∧ w.drew.cell? ⟨b, 1, none⟩ = some (.int .i64 pos)) := ⟨h.all.1, h.all.2.1⟩
  have HR1 : Hid (RdAt (w.setCell ⟨b, 1, none⟩ (.int .i64 s.size)) b { Rdr.new s pos place with pos := s.size }) := h.pos s.size
  have i0 : (0 : Int) ≤ (pos : Int) := by omega
  have i1 : (pos : Int) ≤ s.size := by omega
  obtain ⟨t, ht⟩ : ∃ t, Hid ((s.data.toList.drop pos).takeWhile (· != 60) = t) := ⟨_, rfl⟩
  obtain ⟨k, hk⟩ : ∃ k, Hid (t.length = k) := ⟨_, rfl⟩
  have hkl : pos + k ≤ s.size := by
    have := takeWhile_len (· != 60) (s.data.toList.drop pos)
    rw [ht.out, hk.out, List.length_drop, HL.out] at this; omega
  have htk : Hid ((s.data.toList.drop pos).take (pos + k - pos) = t) := by
    show _ = _
    have h2 := span_word (s.data.toList.drop pos) (· != 60)
    rw [ht.out] at h2
    rw [show pos + k - pos = t.length by have := hk.out; omega]
    conv => lhs; rw [h2]
    rw [List.take_append_of_le_length (Nat.le_refl _), List.take_length]
  obtain ⟨u, n, e, hu⟩ : ∃ u n e, Hid (undoL false t = (u, n, e)) := ⟨_, _, _, rfl⟩
  have hU : Hid (undoL false ((s.data.toList.drop pos).take (pos + k - pos)) = (u, n, e)) := by show _ = _; rw [htk.out]; exact hu.out
  have HY : Hid ((w.setCell ⟨b, 1, none⟩ (.int .i64 s.size)).cell? ⟨b, 0, none⟩ = some (.string s) ∧ (w.setCell ⟨b, 1, none⟩ (.int .i64 s.size)).cell? ⟨b, 1, none⟩ = some (.int .i64 s.size)) := ⟨HR1.out.all.1, HR1.out.all.2.1⟩
  by_cases hlast : k = s.size - pos
  · have hq : Hid (Lib.indexByte (s.data.toList.drop pos) 60 = -1) := idx_not 60 _ (by rw [ht.out, hk.out, List.length_drop, HL.out]; exact hlast)
    have HG : Hid (True ∧ True) := ⟨trivial, trivial⟩
    have HR2 : Hid (RdAt (w.setCell ⟨b, 1, none⟩ (.int .i64 s.size)) b { Rdr.new s pos place with pos := pos + k }) := by
      rw [show pos + k = s.size by omega]; exact HR1.out
    have hJ : Hid ((s.size : Int) = ((pos + k : Nat) : Int)) := by show _ = _; omega
    clear h hlast
    go_enter Try.func40, Try.ntmps40
    go_wp2_with fail
    refine wp_region_held_drew (S := fun w' => w'.cell? ⟨b, 0, none⟩ = some (.string s) ∧ w'.cell? ⟨b, 1, none⟩ = some (.int .i64 pos)) (by kernel_rfl) HS.out (fun hHeld => ?_)
    refine tk (oi := ⟨_, _, _, _, _, _⟩) (v := ?_) 0 rfl (by kernel_rfl) (fun _ _ _ h => h) (.inl ⟨by rfl, ?_⟩) (by assumption) ?_; rotate_left
    · (intro wS hSw; (try dsimp only at hSw); go_simp); all_goals with_reducible rfl
    try go_frame
    refine tk (oi := ⟨_, _, _, _, _, _⟩) (v := ?_) 1 rfl (by kernel_rfl) (fun _ _ _ h => h) (.inl ⟨by rfl, ?_⟩) (by assumption) ?_; rotate_left
    · (intro wS hSw; (try dsimp only at hSw); go_simp); all_goals with_reducible rfl
    try go_frame
    refine tk (oi := ⟨_, _, _, _, _, _⟩) (v := ?_) 2 rfl (by kernel_rfl) (fun _ _ _ h => h) (.inl ⟨by rfl, ?_⟩) (by assumption) ?_; rotate_left
    · (intro wS hSw; (try dsimp only at hSw); go_simp); all_goals with_reducible rfl
    try go_frame
    refine tk (oi := ⟨_, _, _, _, _, _⟩) (v := ?_) 3 rfl (by kernel_rfl) (fun _ _ _ h => h) (.inl ⟨by rfl, ?_⟩) (by assumption) ?_; rotate_left
    · (intro wS hSw; (try dsimp only at hSw); go_simp); all_goals with_reducible rfl
    try go_frame
    refine tk (oi := ⟨_, _, _, _, _, _⟩) (v := ?_) 4 rfl (by kernel_rfl) (fun _ _ _ h => h) (.inl ⟨by rfl, ?_⟩) (by assumption) ?_; rotate_left
    · (intro wS hSw; (try dsimp only at hSw); go_simp); all_goals with_reducible rfl
    try go_frame
    refine tk (oi := ⟨_, _, _, _, _, _⟩) (v := ?_) 5 rfl (by kernel_rfl) (fun _ _ _ h => h) (.inl ⟨by rfl, ?_⟩) (by assumption) ?_; rotate_left
    · (intro wS hSw; (try dsimp only at hSw); go_simp); all_goals with_reducible rfl
    try go_frame
    refine tk (oi := ⟨_, _, _, _, _, _⟩) (v := ?_) 6 rfl (by kernel_rfl) (fun _ _ _ h => h) (.inl ⟨by rfl, ?_⟩) (by assumption) ?_; rotate_left
    · (intro wS hSw; (try dsimp only at hSw); go_simp); all_goals with_reducible rfl
    try go_frame
    refine tk (oi := ⟨_, _, _, _, _, _⟩) (v := ?_) 7 rfl (by kernel_rfl) (fun _ _ _ h => h) (.inl ⟨by rfl, ?_⟩) (by assumption) ?_; rotate_left
    · (intro wS hSw; (try dsimp only at hSw); go_simp); all_goals with_reducible rfl
    try go_frame
    refine tk (oi := ⟨_, _, _, _, _, _⟩) (v := ?_) 8 rfl (by kernel_rfl) (fun _ _ _ h => h) (.inl ⟨by rfl, ?_⟩) (by assumption) ?_; rotate_left
    · (intro wS hSw; (try dsimp only at hSw); go_simp); all_goals with_reducible rfl
    try go_frame
    refine tk (oi := ⟨_, _, _, _, _, _⟩) (v := ?_) 9 rfl (by kernel_rfl) (fun _ _ _ h => h) (.inl ⟨by rfl, ?_⟩) (by assumption) ?_; rotate_left
    · (intro wS hSw; (try dsimp only at hSw); go_simp); all_goals with_reducible rfl
    try go_frame
    refine tk (oi := ⟨_, _, _, _, _, _⟩) (v := ?_) 10 rfl (by kernel_rfl) (fun _ _ _ h => h) (.inl ⟨by rfl, ?_⟩) (by assumption) ?_; rotate_left
    · (intro wS hSw; (try dsimp only at hSw); go_simp); all_goals with_reducible rfl
    try go_frame
    refine tk (oi := ⟨_, _, _, _, _, _⟩) (v := ?_) 11 rfl (by kernel_rfl) (fun _ _ _ h => h) (.inl ⟨by rfl, ?_⟩) (by assumption) ?_; rotate_left
    · (intro wS hSw; (try dsimp only at hSw); go_simp); all_goals with_reducible rfl
    try go_frame
    refine tk (oi := ⟨_, _, _, _, _, _⟩) (v := ?_) 12 rfl (by kernel_rfl) (fun _ _ _ h => h) (.inl ⟨by rfl, ?_⟩) (by assumption) ?_; rotate_left
    · (intro wS hSw; (try dsimp only at hSw); go_simp); all_goals with_reducible rfl
    try go_frame
    refine wpAnyH_ready (rs := [13]) (by kernel_rfl) (by simp) ?_
    refine AllReadyH.cons (o := ⟨_, _, _, _, _, _⟩) rfl (fun K hK => ?_) AllReadyH.nil
    go_simp
    refine (Try.strings_IndexByte _ _ _).mono ?_
    rw [hx.out]
    rintro e w2 ⟨rfl, rfl⟩
    rw [show ((60 : Int)).toNat.toUInt8 = 60 from rfl, hq.out]
    go_wp2_with fail
    refine hK.out _ _ (HS.out) (fun hHeld => ?_)
    clear hK K
    try go_frame
    refine tk (oi := ⟨_, _, _, _, _, _⟩) (v := ?_) 14 rfl (by kernel_rfl) (fun _ _ _ h => h) (.inl ⟨by rfl, ?_⟩) (by assumption) ?_; rotate_left
    · (intro wS hSw; (try dsimp only at hSw); go_simp); all_goals with_reducible rfl
    try go_frame
    refine tk (oi := ⟨_, _, _, _, _, _⟩) (v := ?_) 15 rfl (by kernel_rfl) (fun _ _ _ h => h) (.inl ⟨by rfl, ?_⟩) (by assumption) ?_; rotate_left
    · (intro wS hSw; (try dsimp only at hSw); go_simp); all_goals with_reducible rfl
    try go_frame
    refine wpAnyH_done (by kernel_rfl) ?_ _
    clear hHeld
    obtain ⟨g0, g1⟩ := HG.out
    obtain ⟨y0, y1⟩ := HY.out
    have f1 : w.drew.frozen? ⟨b, 1, none⟩ = false := HR.out.froz 1
    have f2 : (w.setCell ⟨b, 1, none⟩ (.int .i64 s.size)).frozen? ⟨b, 1, none⟩ = false := HR1.out.froz 1
    obtain ⟨h0, h1⟩ := HS.out
    go_wp2_with fail
    refine (undone_at b { Rdr.new s pos place with pos := pos + k } (w.setCell ⟨b, 1, none⟩ (.int .i64 s.size)).drew HR2.out.drew pos (pos + k) (Nat.le_add_right _ _) hkl hs false (u, n, e) hU (s.size : Int) hJ).mono ?_
    rintro e2 W2 ⟨rfl, hW2, hg2⟩
    clear h0 h1 y0 y1 f1 f2 g0 g1
    have hgW : w.grownBy W2 (some b) := grown_twice (grown_drew (Lib.grownBy_setCell w b 1 _)) hg2
    by_cases he : e = 0
    · subst he
      have hW2' : RdAt W2 b { Rdr.new s pos place with pos := pos + k } := hW2
      clear hW2
      by_cases hlong : 1500 < u.length
      · have hlong' : (1500 : Int) < u.length := by omega
        have HV : Hid (V = .bad 0 34) := by show _ = _; rw [← hV.out, textT_of ht.out hu.out, if_neg (by simp), if_pos hlong]
        clear hlong
        go_wp2_with fail
        refine (fail_any b _ W2 hW2' pos 34).mono ?_
        rintro e3 W3 ⟨rfl, hW3, hg3⟩
        go_wp2_with fail
        go_ret
        rw [HV.out]
        exact ⟨below_of_grown (grown_twice hgW hg3) hB hBw, rfl, _, hW3, rfl, rfl⟩
      · have hlong' : (u.length : Int) ≤ 1500 := by omega
        have HV : Hid (V = .ok ⟨4, [], u, []⟩ k) := by show _ = _; rw [← hV.out, textT_of ht.out hu.out, if_neg (by simp), if_neg hlong, hk.out]
        clear hlong
        have HW2 := Lib.hid hW2'
        obtain ⟨_, _, z2, _, _, z5, _⟩ := hW2'.all
        have zf2 := hW2'.froz 2
        have zf5 := hW2'.froz 5
        clear hW2'
        go_wp2_with fail
        go_ret
        rw [HV.out]
        exact ⟨below_of_grown (Lib.grownBy_setB (Lib.grownBy_setB hgW 2 _) 5 _) hB hBw, rfl, none, 0, (HW2.out.kind 4).text u, World.ownsRow_nil _ _ _ _⟩
    · have HV : Hid (V = .bad n e) := by show _ = _; rw [← hV.out, textT_of ht.out hu.out, if_pos he]
      have hd : decide (e = 0) = false := decide_eq_false he
      have HE := Lib.hid he
      clear he
      go_wp2_with fail
      go_ret
      rw [HV.out]
      refine ⟨below_of_grown hgW hB hBw, rfl, ?_⟩
      have hW2' : RdAt W2 b (if e = 0 then { Rdr.new s pos place with pos := pos + k } else { { Rdr.new s pos place with pos := pos + k } with bad := (pos : Int) + n, code := e }) := hW2
      rw [if_neg HE.out] at hW2'
      exact ⟨_, hW2', rfl, rfl⟩
  · have hq : Hid (Lib.indexByte (s.data.toList.drop pos) 60 = (k : Nat)) := by
      show _ = _
      rw [← hk.out, ← ht.out]
      exact idx_yes 60 _ (by rw [ht.out, hk.out, List.length_drop, HL.out]; exact hlast)
    have HR2 : Hid (RdAt ((w.setCell ⟨b, 1, none⟩ (.int .i64 s.size)).setCell ⟨b, 1, none⟩ (.int .i64 ((pos : Int) + k))) b { Rdr.new s pos place with pos := pos + k }) := HR1.out.pos (pos + k)
    have HG : Hid (((w.setCell ⟨b, 1, none⟩ (.int .i64 s.size)).setCell ⟨b, 1, none⟩ (.int .i64 ((pos : Int) + k))).cell? ⟨b, 0, none⟩ = some (.string s) ∧ ((w.setCell ⟨b, 1, none⟩ (.int .i64 s.size)).setCell ⟨b, 1, none⟩ (.int .i64 ((pos : Int) + k))).cell? ⟨b, 1, none⟩ = some (.int .i64 ((pos : Int) + k))) := ⟨HR2.out.all.1, HR2.out.all.2.1⟩
    have hJ : Hid (((pos : Int) + k) = ((pos + k : Nat) : Int)) := by show _ = _; omega
    clear h hlast
    go_enter Try.func40, Try.ntmps40
    go_wp2_with fail
    refine wp_region_held_drew (S := fun w' => w'.cell? ⟨b, 0, none⟩ = some (.string s) ∧ w'.cell? ⟨b, 1, none⟩ = some (.int .i64 pos)) (by kernel_rfl) HS.out (fun hHeld => ?_)
    refine tk (oi := ⟨_, _, _, _, _, _⟩) (v := ?_) 0 rfl (by kernel_rfl) (fun _ _ _ h => h) (.inl ⟨by rfl, ?_⟩) (by assumption) ?_; rotate_left
    · (intro wS hSw; (try dsimp only at hSw); go_simp); all_goals with_reducible rfl
    try go_frame
    refine tk (oi := ⟨_, _, _, _, _, _⟩) (v := ?_) 1 rfl (by kernel_rfl) (fun _ _ _ h => h) (.inl ⟨by rfl, ?_⟩) (by assumption) ?_; rotate_left
    · (intro wS hSw; (try dsimp only at hSw); go_simp); all_goals with_reducible rfl
    try go_frame
    refine tk (oi := ⟨_, _, _, _, _, _⟩) (v := ?_) 2 rfl (by kernel_rfl) (fun _ _ _ h => h) (.inl ⟨by rfl, ?_⟩) (by assumption) ?_; rotate_left
    · (intro wS hSw; (try dsimp only at hSw); go_simp); all_goals with_reducible rfl
    try go_frame
    refine tk (oi := ⟨_, _, _, _, _, _⟩) (v := ?_) 3 rfl (by kernel_rfl) (fun _ _ _ h => h) (.inl ⟨by rfl, ?_⟩) (by assumption) ?_; rotate_left
    · (intro wS hSw; (try dsimp only at hSw); go_simp); all_goals with_reducible rfl
    try go_frame
    refine tk (oi := ⟨_, _, _, _, _, _⟩) (v := ?_) 4 rfl (by kernel_rfl) (fun _ _ _ h => h) (.inl ⟨by rfl, ?_⟩) (by assumption) ?_; rotate_left
    · (intro wS hSw; (try dsimp only at hSw); go_simp); all_goals with_reducible rfl
    try go_frame
    refine tk (oi := ⟨_, _, _, _, _, _⟩) (v := ?_) 5 rfl (by kernel_rfl) (fun _ _ _ h => h) (.inl ⟨by rfl, ?_⟩) (by assumption) ?_; rotate_left
    · (intro wS hSw; (try dsimp only at hSw); go_simp); all_goals with_reducible rfl
    try go_frame
    refine tk (oi := ⟨_, _, _, _, _, _⟩) (v := ?_) 6 rfl (by kernel_rfl) (fun _ _ _ h => h) (.inl ⟨by rfl, ?_⟩) (by assumption) ?_; rotate_left
    · (intro wS hSw; (try dsimp only at hSw); go_simp); all_goals with_reducible rfl
    try go_frame
    refine tk (oi := ⟨_, _, _, _, _, _⟩) (v := ?_) 7 rfl (by kernel_rfl) (fun _ _ _ h => h) (.inl ⟨by rfl, ?_⟩) (by assumption) ?_; rotate_left
    · (intro wS hSw; (try dsimp only at hSw); go_simp); all_goals with_reducible rfl
    try go_frame
    refine tk (oi := ⟨_, _, _, _, _, _⟩) (v := ?_) 8 rfl (by kernel_rfl) (fun _ _ _ h => h) (.inl ⟨by rfl, ?_⟩) (by assumption) ?_; rotate_left
    · (intro wS hSw; (try dsimp only at hSw); go_simp); all_goals with_reducible rfl
    try go_frame
    refine tk (oi := ⟨_, _, _, _, _, _⟩) (v := ?_) 9 rfl (by kernel_rfl) (fun _ _ _ h => h) (.inl ⟨by rfl, ?_⟩) (by assumption) ?_; rotate_left
    · (intro wS hSw; (try dsimp only at hSw); go_simp); all_goals with_reducible rfl
    try go_frame
    refine tk (oi := ⟨_, _, _, _, _, _⟩) (v := ?_) 10 rfl (by kernel_rfl) (fun _ _ _ h => h) (.inl ⟨by rfl, ?_⟩) (by assumption) ?_; rotate_left
    · (intro wS hSw; (try dsimp only at hSw); go_simp); all_goals with_reducible rfl
    try go_frame
    refine tk (oi := ⟨_, _, _, _, _, _⟩) (v := ?_) 11 rfl (by kernel_rfl) (fun _ _ _ h => h) (.inl ⟨by rfl, ?_⟩) (by assumption) ?_; rotate_left
    · (intro wS hSw; (try dsimp only at hSw); go_simp); all_goals with_reducible rfl
    try go_frame
    refine tk (oi := ⟨_, _, _, _, _, _⟩) (v := ?_) 12 rfl (by kernel_rfl) (fun _ _ _ h => h) (.inl ⟨by rfl, ?_⟩) (by assumption) ?_; rotate_left
    · (intro wS hSw; (try dsimp only at hSw); go_simp); all_goals with_reducible rfl
    try go_frame
    refine wpAnyH_ready (rs := [13]) (by kernel_rfl) (by simp) ?_
    refine AllReadyH.cons (o := ⟨_, _, _, _, _, _⟩) rfl (fun K hK => ?_) AllReadyH.nil
    go_simp
    refine (Try.strings_IndexByte _ _ _).mono ?_
    rw [hx.out]
    rintro e w2 ⟨rfl, rfl⟩
    rw [show ((60 : Int)).toNat.toUInt8 = 60 from rfl, hq.out]
    go_wp2_with fail
    refine hK.out _ _ (HS.out) (fun hHeld => ?_)
    clear hK K
    try go_frame
    refine tk (oi := ⟨_, _, _, _, _, _⟩) (v := ?_) 14 rfl (by kernel_rfl) (fun _ _ _ h => h) (.inl ⟨by rfl, ?_⟩) (by assumption) ?_; rotate_left
    · (intro wS hSw; (try dsimp only at hSw); go_simp); all_goals with_reducible rfl
    try go_frame
    refine tk (oi := ⟨_, _, _, _, _, _⟩) (v := ?_) 15 rfl (by kernel_rfl) (fun _ _ _ h => h) (.inl ⟨by rfl, ?_⟩) (by assumption) ?_; rotate_left
    · (intro wS hSw; (try dsimp only at hSw); go_simp); all_goals with_reducible rfl
    try go_frame
    refine wpAnyH_done (by kernel_rfl) ?_ _
    clear hHeld
    obtain ⟨g0, g1⟩ := HG.out
    obtain ⟨y0, y1⟩ := HY.out
    have f1 : w.drew.frozen? ⟨b, 1, none⟩ = false := HR.out.froz 1
    have f2 : (w.setCell ⟨b, 1, none⟩ (.int .i64 s.size)).frozen? ⟨b, 1, none⟩ = false := HR1.out.froz 1
    obtain ⟨h0, h1⟩ := HS.out
    go_wp2_with fail
    refine (undone_at b { Rdr.new s pos place with pos := pos + k } ((w.setCell ⟨b, 1, none⟩ (.int .i64 s.size)).setCell ⟨b, 1, none⟩ (.int .i64 ((pos : Int) + k))).drew HR2.out.drew pos (pos + k) (Nat.le_add_right _ _) hkl hs false (u, n, e) hU ((pos : Int) + k) hJ).mono ?_
    rintro e2 W2 ⟨rfl, hW2, hg2⟩
    clear h0 h1 y0 y1 f1 f2 g0 g1
    have hgW : w.grownBy W2 (some b) := grown_twice (grown_drew (Lib.grownBy_setB (Lib.grownBy_setCell w b 1 _) 1 _)) hg2
    by_cases he : e = 0
    · subst he
      have hW2' : RdAt W2 b { Rdr.new s pos place with pos := pos + k } := hW2
      clear hW2
      by_cases hlong : 1500 < u.length
      · have hlong' : (1500 : Int) < u.length := by omega
        have HV : Hid (V = .bad 0 34) := by show _ = _; rw [← hV.out, textT_of ht.out hu.out, if_neg (by simp), if_pos hlong]
        clear hlong
        go_wp2_with fail
        refine (fail_any b _ W2 hW2' pos 34).mono ?_
        rintro e3 W3 ⟨rfl, hW3, hg3⟩
        go_wp2_with fail
        go_ret
        rw [HV.out]
        exact ⟨below_of_grown (grown_twice hgW hg3) hB hBw, rfl, _, hW3, rfl, rfl⟩
      · have hlong' : (u.length : Int) ≤ 1500 := by omega
        have HV : Hid (V = .ok ⟨4, [], u, []⟩ k) := by show _ = _; rw [← hV.out, textT_of ht.out hu.out, if_neg (by simp), if_neg hlong, hk.out]
        clear hlong
        have HW2 := Lib.hid hW2'
        obtain ⟨_, _, z2, _, _, z5, _⟩ := hW2'.all
        have zf2 := hW2'.froz 2
        have zf5 := hW2'.froz 5
        clear hW2'
        go_wp2_with fail
        go_ret
        rw [HV.out]
        exact ⟨below_of_grown (Lib.grownBy_setB (Lib.grownBy_setB hgW 2 _) 5 _) hB hBw, rfl, none, 0, (HW2.out.kind 4).text u, World.ownsRow_nil _ _ _ _⟩
    · have HV : Hid (V = .bad n e) := by show _ = _; rw [← hV.out, textT_of ht.out hu.out, if_pos he]
      have hd : decide (e = 0) = false := decide_eq_false he
      have HE := Lib.hid he
      clear he
      go_wp2_with fail
      go_ret
      rw [HV.out]
      refine ⟨below_of_grown hgW hB hBw, rfl, ?_⟩
      have hW2' : RdAt W2 b (if e = 0 then { Rdr.new s pos place with pos := pos + k } else { { Rdr.new s pos place with pos := pos + k } with bad := (pos : Int) + n, code := e }) := hW2
      rw [if_neg HE.out] at hW2'
      exact ⟨_, hW2', rfl, rfl⟩

set_option maxRecDepth 100000 in
set_option maxHeartbeats 1000000 in
theorem end_any (b B : Nat) (s : ByteArray) (pos place : Nat) (w : World) (h : RdAt w b (Rdr.new s pos place)) (hB : B ≤ b) (hBw : B ≤ w.heap.size) (hp : pos ≤ s.size) (hs : s.size ≤ 1000000000) (V : Told TokD) (hV : Hid (endT (s.data.toList.drop pos) = V)) :
    Calls Try.prog 42 #[.pointer (some ⟨b, 0, none⟩)] w (TokPost w B b s pos place V) := by
  have HL := Lib.hid (size_toList s)
  obtain ⟨n, hn⟩ : ∃ n, Hid (wordL (s.data.toList.drop pos) = n) := ⟨_, rfl⟩
  obtain ⟨v, hv⟩ : ∃ v, Hid (nameL n = v) := ⟨_, rfl⟩
  have hn1 : pos + n.length ≤ s.size := by
    have := wordL_len (s.data.toList.drop pos)
    rw [hn.out, List.length_drop, HL.out] at this; omega
  cases v with
  | false =>
    have HV : Hid (V = .bad 0 31) := by
      show _ = _
      rw [← hV.out]
      unfold endT
      simp only [hn.out, hv.out]
      rw [if_pos trivial]
    go_enter Try.func42, Try.ntmps42
    go_wp2_with fail
    refine (word_any b (Rdr.new s pos place) w h hp hs n hn false hv _ rfl [] rfl).mono ?_
    rintro e W1 ⟨rfl, hW1, hg1⟩
    go_wp2_with fail
    go_ret
    rw [HV.out]
    exact ⟨below_of_grown hg1 hB hBw, rfl, _, hW1, rfl, rfl⟩
  | true =>
    obtain ⟨k, hk⟩ : ∃ k, Hid (skipL (s.data.toList.drop (pos + n.length)) = k) := ⟨_, rfl⟩
    have hk1 : pos + n.length + k ≤ s.size := by
      have := skipL_len (s.data.toList.drop (pos + n.length))
      rw [hk.out, List.length_drop, HL.out] at this; omega
    obtain ⟨m, hm⟩ : ∃ m, Hid (pre [62] (s.data.toList.drop (pos + n.length + k)) = m) := ⟨_, rfl⟩
    have hVE : Hid (V = if m then .ok ⟨2, n, [], []⟩ (n.length + k + 1) else .bad (n.length + k) 30) := by
      show _ = _
      rw [← hV.out]
      unfold endT
      simp only [hn.out, hv.out, List.drop_drop, hk.out]
      rw [if_neg (by simp), show pos + (n.length + k) = pos + n.length + k by omega, hm.out]
    go_enter Try.func42, Try.ntmps42
    go_wp2_with fail
    refine (word_any b (Rdr.new s pos place) w h hp hs n hn true hv _ rfl n rfl).mono ?_
    rintro e W1 ⟨rfl, hW1, hg1⟩
    have hW1' : RdAt W1 b { Rdr.new s pos place with pos := pos + n.length } := hW1
    go_wp2_with fail
    refine (blanks_any b _ W1 hW1' hn1 hs k hk).mono ?_
    rintro e W2 ⟨rfl, hW2, hg2⟩
    have hW2' : RdAt W2 b { Rdr.new s pos place with pos := pos + n.length + k } := hW2
    obtain ⟨_, _, z2, _, z4, _⟩ := hW2'.all
    have zf2 := hW2'.froz 2
    have zf4 := hW2'.froz 4
    have hW3 : Hid (RdAt ((W2.setCell ⟨b, 2, none⟩ (.int .i64 2)).setCell ⟨b, 4, none⟩ (.string ⟨n.toArray⟩)) b { Rdr.new s pos place with pos := pos + n.length + k, kind := 2, name := n }) := (hW2'.kind 2).name n
    have hg3 : w.grownBy ((W2.setCell ⟨b, 2, none⟩ (.int .i64 2)).setCell ⟨b, 4, none⟩ (.string ⟨n.toArray⟩)) (some b) := Lib.grownBy_setB (Lib.grownBy_setB (grown_twice hg1 hg2) 2 _) 4 _
    clear hW2 hW2' hW1 hW1' h
    go_wp2_with fail
    refine (must_any b _ _ hW3.out [62] hk1 hs m hm (by decide)).mono ?_
    rintro e W4 ⟨rfl, hW4, hg4⟩
    go_wp2_with fail
    go_ret
    cases m with
    | true =>
      rw [hVE.out, if_pos rfl]
      refine ⟨below_of_grown (grown_twice hg3 hg4) hB hBw, rfl, none, 0, ?_, World.ownsRow_nil _ _ _ _⟩
      have hW4' : RdAt W4 b { Rdr.new s pos place with pos := pos + n.length + k + 1, kind := 2, name := n } := hW4
      rw [show pos + (n.length + k + 1) = pos + n.length + k + 1 by omega]
      exact hW4'
    | false =>
      rw [hVE.out, if_neg (by decide)]
      refine ⟨below_of_grown (grown_twice hg3 hg4) hB hBw, rfl, _, hW4, ?_, rfl⟩
      show ((pos + n.length + k : Nat) : Int) = _
      rw [show pos + (n.length + k) = pos + n.length + k by omega]
end Go.Proofs.Ythifddkmbjnncaa
