/-
  The walks of ref01.Start and ref01.Part.
-/
import Derived.Test.YtiopijjlkmpikaaPart
namespace Go.Proofs.Ytiopijjlkmpikaa
open Go.RowKit

set_option maxRecDepth 100000 in
set_option maxHeartbeats 4000000 in
theorem RStart_any (c : Int) (w : World) : Calls Try.prog 63 #[.int .i32 c] w (Ret w (.bool (startB c))) := by
  rcases Int.lt_or_le c 65 with k0 | k0
  · have e95 : (c == 95) = false := by simp; omega
    have e8204 : (c == 8204) = false := by simp; omega
    have e8205 : (c == 8205) = false := by simp; omega
    have a65 : decide ((65 : Int) ≤ c) = false := by simp; omega
    have b90 : decide (c ≤ (90 : Int)) = true := by simp; omega
    have a97 : decide ((97 : Int) ≤ c) = false := by simp; omega
    have b122 : decide (c ≤ (122 : Int)) = true := by simp; omega
    have a192 : decide ((192 : Int) ≤ c) = false := by simp; omega
    have b214 : decide (c ≤ (214 : Int)) = true := by simp; omega
    have a216 : decide ((216 : Int) ≤ c) = false := by simp; omega
    have b246 : decide (c ≤ (246 : Int)) = true := by simp; omega
    have a248 : decide ((248 : Int) ≤ c) = false := by simp; omega
    have b767 : decide (c ≤ (767 : Int)) = true := by simp; omega
    have a880 : decide ((880 : Int) ≤ c) = false := by simp; omega
    have b893 : decide (c ≤ (893 : Int)) = true := by simp; omega
    have a895 : decide ((895 : Int) ≤ c) = false := by simp; omega
    have b8191 : decide (c ≤ (8191 : Int)) = true := by simp; omega
    have a8304 : decide ((8304 : Int) ≤ c) = false := by simp; omega
    have b8591 : decide (c ≤ (8591 : Int)) = true := by simp; omega
    have a11264 : decide ((11264 : Int) ≤ c) = false := by simp; omega
    have b12271 : decide (c ≤ (12271 : Int)) = true := by simp; omega
    have a12289 : decide ((12289 : Int) ≤ c) = false := by simp; omega
    have b55295 : decide (c ≤ (55295 : Int)) = true := by simp; omega
    have a63744 : decide ((63744 : Int) ≤ c) = false := by simp; omega
    have b64975 : decide (c ≤ (64975 : Int)) = true := by simp; omega
    have a65008 : decide ((65008 : Int) ≤ c) = false := by simp; omega
    have b65533 : decide (c ≤ (65533 : Int)) = true := by simp; omega
    have a65536 : decide ((65536 : Int) ≤ c) = false := by simp; omega
    have b983039 : decide (c ≤ (983039 : Int)) = true := by simp; omega
    have hv : Hid (startB c = false) := by show _ = _; unfold startB; simp; omega
    clear k0
    go_enter Try.func63, Try.ntmps63
    go_wp2_with fail
    go_ret
    exact ⟨by rw [hv.out]; rfl, Below.refl _ _⟩
  rcases Int.lt_or_le c 91 with k1 | k1
  · have e95 : (c == 95) = false := by simp; omega
    have e8204 : (c == 8204) = false := by simp; omega
    have e8205 : (c == 8205) = false := by simp; omega
    have a65 : decide ((65 : Int) ≤ c) = true := by simp; omega
    have b90 : decide (c ≤ (90 : Int)) = true := by simp; omega
    have a97 : decide ((97 : Int) ≤ c) = false := by simp; omega
    have b122 : decide (c ≤ (122 : Int)) = true := by simp; omega
    have a192 : decide ((192 : Int) ≤ c) = false := by simp; omega
    have b214 : decide (c ≤ (214 : Int)) = true := by simp; omega
    have a216 : decide ((216 : Int) ≤ c) = false := by simp; omega
    have b246 : decide (c ≤ (246 : Int)) = true := by simp; omega
    have a248 : decide ((248 : Int) ≤ c) = false := by simp; omega
    have b767 : decide (c ≤ (767 : Int)) = true := by simp; omega
    have a880 : decide ((880 : Int) ≤ c) = false := by simp; omega
    have b893 : decide (c ≤ (893 : Int)) = true := by simp; omega
    have a895 : decide ((895 : Int) ≤ c) = false := by simp; omega
    have b8191 : decide (c ≤ (8191 : Int)) = true := by simp; omega
    have a8304 : decide ((8304 : Int) ≤ c) = false := by simp; omega
    have b8591 : decide (c ≤ (8591 : Int)) = true := by simp; omega
    have a11264 : decide ((11264 : Int) ≤ c) = false := by simp; omega
    have b12271 : decide (c ≤ (12271 : Int)) = true := by simp; omega
    have a12289 : decide ((12289 : Int) ≤ c) = false := by simp; omega
    have b55295 : decide (c ≤ (55295 : Int)) = true := by simp; omega
    have a63744 : decide ((63744 : Int) ≤ c) = false := by simp; omega
    have b64975 : decide (c ≤ (64975 : Int)) = true := by simp; omega
    have a65008 : decide ((65008 : Int) ≤ c) = false := by simp; omega
    have b65533 : decide (c ≤ (65533 : Int)) = true := by simp; omega
    have a65536 : decide ((65536 : Int) ≤ c) = false := by simp; omega
    have b983039 : decide (c ≤ (983039 : Int)) = true := by simp; omega
    have hv : Hid (startB c = true) := by show _ = _; unfold startB; simp; omega
    clear k0 k1
    go_enter Try.func63, Try.ntmps63
    go_wp2_with fail
    go_ret
    exact ⟨by rw [hv.out]; rfl, Below.refl _ _⟩
  rcases Int.lt_or_le c 95 with k2 | k2
  · have e95 : (c == 95) = false := by simp; omega
    have e8204 : (c == 8204) = false := by simp; omega
    have e8205 : (c == 8205) = false := by simp; omega
    have a65 : decide ((65 : Int) ≤ c) = true := by simp; omega
    have b90 : decide (c ≤ (90 : Int)) = false := by simp; omega
    have a97 : decide ((97 : Int) ≤ c) = false := by simp; omega
    have b122 : decide (c ≤ (122 : Int)) = true := by simp; omega
    have a192 : decide ((192 : Int) ≤ c) = false := by simp; omega
    have b214 : decide (c ≤ (214 : Int)) = true := by simp; omega
    have a216 : decide ((216 : Int) ≤ c) = false := by simp; omega
    have b246 : decide (c ≤ (246 : Int)) = true := by simp; omega
    have a248 : decide ((248 : Int) ≤ c) = false := by simp; omega
    have b767 : decide (c ≤ (767 : Int)) = true := by simp; omega
    have a880 : decide ((880 : Int) ≤ c) = false := by simp; omega
    have b893 : decide (c ≤ (893 : Int)) = true := by simp; omega
    have a895 : decide ((895 : Int) ≤ c) = false := by simp; omega
    have b8191 : decide (c ≤ (8191 : Int)) = true := by simp; omega
    have a8304 : decide ((8304 : Int) ≤ c) = false := by simp; omega
    have b8591 : decide (c ≤ (8591 : Int)) = true := by simp; omega
    have a11264 : decide ((11264 : Int) ≤ c) = false := by simp; omega
    have b12271 : decide (c ≤ (12271 : Int)) = true := by simp; omega
    have a12289 : decide ((12289 : Int) ≤ c) = false := by simp; omega
    have b55295 : decide (c ≤ (55295 : Int)) = true := by simp; omega
    have a63744 : decide ((63744 : Int) ≤ c) = false := by simp; omega
    have b64975 : decide (c ≤ (64975 : Int)) = true := by simp; omega
    have a65008 : decide ((65008 : Int) ≤ c) = false := by simp; omega
    have b65533 : decide (c ≤ (65533 : Int)) = true := by simp; omega
    have a65536 : decide ((65536 : Int) ≤ c) = false := by simp; omega
    have b983039 : decide (c ≤ (983039 : Int)) = true := by simp; omega
    have hv : Hid (startB c = false) := by show _ = _; unfold startB; simp; omega
    clear k0 k1 k2
    go_enter Try.func63, Try.ntmps63
    go_wp2_with fail
    go_ret
    exact ⟨by rw [hv.out]; rfl, Below.refl _ _⟩
  rcases Int.lt_or_le c 96 with k3 | k3
  · have e95 : (c == 95) = true := by simp; omega
    have e8204 : (c == 8204) = false := by simp; omega
    have e8205 : (c == 8205) = false := by simp; omega
    have a65 : decide ((65 : Int) ≤ c) = true := by simp; omega
    have b90 : decide (c ≤ (90 : Int)) = false := by simp; omega
    have a97 : decide ((97 : Int) ≤ c) = false := by simp; omega
    have b122 : decide (c ≤ (122 : Int)) = true := by simp; omega
    have a192 : decide ((192 : Int) ≤ c) = false := by simp; omega
    have b214 : decide (c ≤ (214 : Int)) = true := by simp; omega
    have a216 : decide ((216 : Int) ≤ c) = false := by simp; omega
    have b246 : decide (c ≤ (246 : Int)) = true := by simp; omega
    have a248 : decide ((248 : Int) ≤ c) = false := by simp; omega
    have b767 : decide (c ≤ (767 : Int)) = true := by simp; omega
    have a880 : decide ((880 : Int) ≤ c) = false := by simp; omega
    have b893 : decide (c ≤ (893 : Int)) = true := by simp; omega
    have a895 : decide ((895 : Int) ≤ c) = false := by simp; omega
    have b8191 : decide (c ≤ (8191 : Int)) = true := by simp; omega
    have a8304 : decide ((8304 : Int) ≤ c) = false := by simp; omega
    have b8591 : decide (c ≤ (8591 : Int)) = true := by simp; omega
    have a11264 : decide ((11264 : Int) ≤ c) = false := by simp; omega
    have b12271 : decide (c ≤ (12271 : Int)) = true := by simp; omega
    have a12289 : decide ((12289 : Int) ≤ c) = false := by simp; omega
    have b55295 : decide (c ≤ (55295 : Int)) = true := by simp; omega
    have a63744 : decide ((63744 : Int) ≤ c) = false := by simp; omega
    have b64975 : decide (c ≤ (64975 : Int)) = true := by simp; omega
    have a65008 : decide ((65008 : Int) ≤ c) = false := by simp; omega
    have b65533 : decide (c ≤ (65533 : Int)) = true := by simp; omega
    have a65536 : decide ((65536 : Int) ≤ c) = false := by simp; omega
    have b983039 : decide (c ≤ (983039 : Int)) = true := by simp; omega
    have hv : Hid (startB c = true) := by show _ = _; unfold startB; simp; omega
    clear k0 k1 k2 k3
    go_enter Try.func63, Try.ntmps63
    go_wp2_with fail
    go_ret
    exact ⟨by rw [hv.out]; rfl, Below.refl _ _⟩
  rcases Int.lt_or_le c 97 with k4 | k4
  · have e95 : (c == 95) = false := by simp; omega
    have e8204 : (c == 8204) = false := by simp; omega
    have e8205 : (c == 8205) = false := by simp; omega
    have a65 : decide ((65 : Int) ≤ c) = true := by simp; omega
    have b90 : decide (c ≤ (90 : Int)) = false := by simp; omega
    have a97 : decide ((97 : Int) ≤ c) = false := by simp; omega
    have b122 : decide (c ≤ (122 : Int)) = true := by simp; omega
    have a192 : decide ((192 : Int) ≤ c) = false := by simp; omega
    have b214 : decide (c ≤ (214 : Int)) = true := by simp; omega
    have a216 : decide ((216 : Int) ≤ c) = false := by simp; omega
    have b246 : decide (c ≤ (246 : Int)) = true := by simp; omega
    have a248 : decide ((248 : Int) ≤ c) = false := by simp; omega
    have b767 : decide (c ≤ (767 : Int)) = true := by simp; omega
    have a880 : decide ((880 : Int) ≤ c) = false := by simp; omega
    have b893 : decide (c ≤ (893 : Int)) = true := by simp; omega
    have a895 : decide ((895 : Int) ≤ c) = false := by simp; omega
    have b8191 : decide (c ≤ (8191 : Int)) = true := by simp; omega
    have a8304 : decide ((8304 : Int) ≤ c) = false := by simp; omega
    have b8591 : decide (c ≤ (8591 : Int)) = true := by simp; omega
    have a11264 : decide ((11264 : Int) ≤ c) = false := by simp; omega
    have b12271 : decide (c ≤ (12271 : Int)) = true := by simp; omega
    have a12289 : decide ((12289 : Int) ≤ c) = false := by simp; omega
    have b55295 : decide (c ≤ (55295 : Int)) = true := by simp; omega
    have a63744 : decide ((63744 : Int) ≤ c) = false := by simp; omega
    have b64975 : decide (c ≤ (64975 : Int)) = true := by simp; omega
    have a65008 : decide ((65008 : Int) ≤ c) = false := by simp; omega
    have b65533 : decide (c ≤ (65533 : Int)) = true := by simp; omega
    have a65536 : decide ((65536 : Int) ≤ c) = false := by simp; omega
    have b983039 : decide (c ≤ (983039 : Int)) = true := by simp; omega
    have hv : Hid (startB c = false) := by show _ = _; unfold startB; simp; omega
    clear k0 k1 k2 k3 k4
    go_enter Try.func63, Try.ntmps63
    go_wp2_with fail
    go_ret
    exact ⟨by rw [hv.out]; rfl, Below.refl _ _⟩
  rcases Int.lt_or_le c 123 with k5 | k5
  · have e95 : (c == 95) = false := by simp; omega
    have e8204 : (c == 8204) = false := by simp; omega
    have e8205 : (c == 8205) = false := by simp; omega
    have a65 : decide ((65 : Int) ≤ c) = true := by simp; omega
    have b90 : decide (c ≤ (90 : Int)) = false := by simp; omega
    have a97 : decide ((97 : Int) ≤ c) = true := by simp; omega
    have b122 : decide (c ≤ (122 : Int)) = true := by simp; omega
    have a192 : decide ((192 : Int) ≤ c) = false := by simp; omega
    have b214 : decide (c ≤ (214 : Int)) = true := by simp; omega
    have a216 : decide ((216 : Int) ≤ c) = false := by simp; omega
    have b246 : decide (c ≤ (246 : Int)) = true := by simp; omega
    have a248 : decide ((248 : Int) ≤ c) = false := by simp; omega
    have b767 : decide (c ≤ (767 : Int)) = true := by simp; omega
    have a880 : decide ((880 : Int) ≤ c) = false := by simp; omega
    have b893 : decide (c ≤ (893 : Int)) = true := by simp; omega
    have a895 : decide ((895 : Int) ≤ c) = false := by simp; omega
    have b8191 : decide (c ≤ (8191 : Int)) = true := by simp; omega
    have a8304 : decide ((8304 : Int) ≤ c) = false := by simp; omega
    have b8591 : decide (c ≤ (8591 : Int)) = true := by simp; omega
    have a11264 : decide ((11264 : Int) ≤ c) = false := by simp; omega
    have b12271 : decide (c ≤ (12271 : Int)) = true := by simp; omega
    have a12289 : decide ((12289 : Int) ≤ c) = false := by simp; omega
    have b55295 : decide (c ≤ (55295 : Int)) = true := by simp; omega
    have a63744 : decide ((63744 : Int) ≤ c) = false := by simp; omega
    have b64975 : decide (c ≤ (64975 : Int)) = true := by simp; omega
    have a65008 : decide ((65008 : Int) ≤ c) = false := by simp; omega
    have b65533 : decide (c ≤ (65533 : Int)) = true := by simp; omega
    have a65536 : decide ((65536 : Int) ≤ c) = false := by simp; omega
    have b983039 : decide (c ≤ (983039 : Int)) = true := by simp; omega
    have hv : Hid (startB c = true) := by show _ = _; unfold startB; simp; omega
    clear k0 k1 k2 k3 k4 k5
    go_enter Try.func63, Try.ntmps63
    go_wp2_with fail
    go_ret
    exact ⟨by rw [hv.out]; rfl, Below.refl _ _⟩
  rcases Int.lt_or_le c 192 with k6 | k6
  · have e95 : (c == 95) = false := by simp; omega
    have e8204 : (c == 8204) = false := by simp; omega
    have e8205 : (c == 8205) = false := by simp; omega
    have a65 : decide ((65 : Int) ≤ c) = true := by simp; omega
    have b90 : decide (c ≤ (90 : Int)) = false := by simp; omega
    have a97 : decide ((97 : Int) ≤ c) = true := by simp; omega
    have b122 : decide (c ≤ (122 : Int)) = false := by simp; omega
    have a192 : decide ((192 : Int) ≤ c) = false := by simp; omega
    have b214 : decide (c ≤ (214 : Int)) = true := by simp; omega
    have a216 : decide ((216 : Int) ≤ c) = false := by simp; omega
    have b246 : decide (c ≤ (246 : Int)) = true := by simp; omega
    have a248 : decide ((248 : Int) ≤ c) = false := by simp; omega
    have b767 : decide (c ≤ (767 : Int)) = true := by simp; omega
    have a880 : decide ((880 : Int) ≤ c) = false := by simp; omega
    have b893 : decide (c ≤ (893 : Int)) = true := by simp; omega
    have a895 : decide ((895 : Int) ≤ c) = false := by simp; omega
    have b8191 : decide (c ≤ (8191 : Int)) = true := by simp; omega
    have a8304 : decide ((8304 : Int) ≤ c) = false := by simp; omega
    have b8591 : decide (c ≤ (8591 : Int)) = true := by simp; omega
    have a11264 : decide ((11264 : Int) ≤ c) = false := by simp; omega
    have b12271 : decide (c ≤ (12271 : Int)) = true := by simp; omega
    have a12289 : decide ((12289 : Int) ≤ c) = false := by simp; omega
    have b55295 : decide (c ≤ (55295 : Int)) = true := by simp; omega
    have a63744 : decide ((63744 : Int) ≤ c) = false := by simp; omega
    have b64975 : decide (c ≤ (64975 : Int)) = true := by simp; omega
    have a65008 : decide ((65008 : Int) ≤ c) = false := by simp; omega
    have b65533 : decide (c ≤ (65533 : Int)) = true := by simp; omega
    have a65536 : decide ((65536 : Int) ≤ c) = false := by simp; omega
    have b983039 : decide (c ≤ (983039 : Int)) = true := by simp; omega
    have hv : Hid (startB c = false) := by show _ = _; unfold startB; simp; omega
    clear k0 k1 k2 k3 k4 k5 k6
    go_enter Try.func63, Try.ntmps63
    go_wp2_with fail
    go_ret
    exact ⟨by rw [hv.out]; rfl, Below.refl _ _⟩
  rcases Int.lt_or_le c 215 with k7 | k7
  · have e95 : (c == 95) = false := by simp; omega
    have e8204 : (c == 8204) = false := by simp; omega
    have e8205 : (c == 8205) = false := by simp; omega
    have a65 : decide ((65 : Int) ≤ c) = true := by simp; omega
    have b90 : decide (c ≤ (90 : Int)) = false := by simp; omega
    have a97 : decide ((97 : Int) ≤ c) = true := by simp; omega
    have b122 : decide (c ≤ (122 : Int)) = false := by simp; omega
    have a192 : decide ((192 : Int) ≤ c) = true := by simp; omega
    have b214 : decide (c ≤ (214 : Int)) = true := by simp; omega
    have a216 : decide ((216 : Int) ≤ c) = false := by simp; omega
    have b246 : decide (c ≤ (246 : Int)) = true := by simp; omega
    have a248 : decide ((248 : Int) ≤ c) = false := by simp; omega
    have b767 : decide (c ≤ (767 : Int)) = true := by simp; omega
    have a880 : decide ((880 : Int) ≤ c) = false := by simp; omega
    have b893 : decide (c ≤ (893 : Int)) = true := by simp; omega
    have a895 : decide ((895 : Int) ≤ c) = false := by simp; omega
    have b8191 : decide (c ≤ (8191 : Int)) = true := by simp; omega
    have a8304 : decide ((8304 : Int) ≤ c) = false := by simp; omega
    have b8591 : decide (c ≤ (8591 : Int)) = true := by simp; omega
    have a11264 : decide ((11264 : Int) ≤ c) = false := by simp; omega
    have b12271 : decide (c ≤ (12271 : Int)) = true := by simp; omega
    have a12289 : decide ((12289 : Int) ≤ c) = false := by simp; omega
    have b55295 : decide (c ≤ (55295 : Int)) = true := by simp; omega
    have a63744 : decide ((63744 : Int) ≤ c) = false := by simp; omega
    have b64975 : decide (c ≤ (64975 : Int)) = true := by simp; omega
    have a65008 : decide ((65008 : Int) ≤ c) = false := by simp; omega
    have b65533 : decide (c ≤ (65533 : Int)) = true := by simp; omega
    have a65536 : decide ((65536 : Int) ≤ c) = false := by simp; omega
    have b983039 : decide (c ≤ (983039 : Int)) = true := by simp; omega
    have hv : Hid (startB c = true) := by show _ = _; unfold startB; simp; omega
    clear k0 k1 k2 k3 k4 k5 k6 k7
    go_enter Try.func63, Try.ntmps63
    go_wp2_with fail
    go_ret
    exact ⟨by rw [hv.out]; rfl, Below.refl _ _⟩
  rcases Int.lt_or_le c 216 with k8 | k8
  · have e95 : (c == 95) = false := by simp; omega
    have e8204 : (c == 8204) = false := by simp; omega
    have e8205 : (c == 8205) = false := by simp; omega
    have a65 : decide ((65 : Int) ≤ c) = true := by simp; omega
    have b90 : decide (c ≤ (90 : Int)) = false := by simp; omega
    have a97 : decide ((97 : Int) ≤ c) = true := by simp; omega
    have b122 : decide (c ≤ (122 : Int)) = false := by simp; omega
    have a192 : decide ((192 : Int) ≤ c) = true := by simp; omega
    have b214 : decide (c ≤ (214 : Int)) = false := by simp; omega
    have a216 : decide ((216 : Int) ≤ c) = false := by simp; omega
    have b246 : decide (c ≤ (246 : Int)) = true := by simp; omega
    have a248 : decide ((248 : Int) ≤ c) = false := by simp; omega
    have b767 : decide (c ≤ (767 : Int)) = true := by simp; omega
    have a880 : decide ((880 : Int) ≤ c) = false := by simp; omega
    have b893 : decide (c ≤ (893 : Int)) = true := by simp; omega
    have a895 : decide ((895 : Int) ≤ c) = false := by simp; omega
    have b8191 : decide (c ≤ (8191 : Int)) = true := by simp; omega
    have a8304 : decide ((8304 : Int) ≤ c) = false := by simp; omega
    have b8591 : decide (c ≤ (8591 : Int)) = true := by simp; omega
    have a11264 : decide ((11264 : Int) ≤ c) = false := by simp; omega
    have b12271 : decide (c ≤ (12271 : Int)) = true := by simp; omega
    have a12289 : decide ((12289 : Int) ≤ c) = false := by simp; omega
    have b55295 : decide (c ≤ (55295 : Int)) = true := by simp; omega
    have a63744 : decide ((63744 : Int) ≤ c) = false := by simp; omega
    have b64975 : decide (c ≤ (64975 : Int)) = true := by simp; omega
    have a65008 : decide ((65008 : Int) ≤ c) = false := by simp; omega
    have b65533 : decide (c ≤ (65533 : Int)) = true := by simp; omega
    have a65536 : decide ((65536 : Int) ≤ c) = false := by simp; omega
    have b983039 : decide (c ≤ (983039 : Int)) = true := by simp; omega
    have hv : Hid (startB c = false) := by show _ = _; unfold startB; simp; omega
    clear k0 k1 k2 k3 k4 k5 k6 k7 k8
    go_enter Try.func63, Try.ntmps63
    go_wp2_with fail
    go_ret
    exact ⟨by rw [hv.out]; rfl, Below.refl _ _⟩
  rcases Int.lt_or_le c 247 with k9 | k9
  · have e95 : (c == 95) = false := by simp; omega
    have e8204 : (c == 8204) = false := by simp; omega
    have e8205 : (c == 8205) = false := by simp; omega
    have a65 : decide ((65 : Int) ≤ c) = true := by simp; omega
    have b90 : decide (c ≤ (90 : Int)) = false := by simp; omega
    have a97 : decide ((97 : Int) ≤ c) = true := by simp; omega
    have b122 : decide (c ≤ (122 : Int)) = false := by simp; omega
    have a192 : decide ((192 : Int) ≤ c) = true := by simp; omega
    have b214 : decide (c ≤ (214 : Int)) = false := by simp; omega
    have a216 : decide ((216 : Int) ≤ c) = true := by simp; omega
    have b246 : decide (c ≤ (246 : Int)) = true := by simp; omega
    have a248 : decide ((248 : Int) ≤ c) = false := by simp; omega
    have b767 : decide (c ≤ (767 : Int)) = true := by simp; omega
    have a880 : decide ((880 : Int) ≤ c) = false := by simp; omega
    have b893 : decide (c ≤ (893 : Int)) = true := by simp; omega
    have a895 : decide ((895 : Int) ≤ c) = false := by simp; omega
    have b8191 : decide (c ≤ (8191 : Int)) = true := by simp; omega
    have a8304 : decide ((8304 : Int) ≤ c) = false := by simp; omega
    have b8591 : decide (c ≤ (8591 : Int)) = true := by simp; omega
    have a11264 : decide ((11264 : Int) ≤ c) = false := by simp; omega
    have b12271 : decide (c ≤ (12271 : Int)) = true := by simp; omega
    have a12289 : decide ((12289 : Int) ≤ c) = false := by simp; omega
    have b55295 : decide (c ≤ (55295 : Int)) = true := by simp; omega
    have a63744 : decide ((63744 : Int) ≤ c) = false := by simp; omega
    have b64975 : decide (c ≤ (64975 : Int)) = true := by simp; omega
    have a65008 : decide ((65008 : Int) ≤ c) = false := by simp; omega
    have b65533 : decide (c ≤ (65533 : Int)) = true := by simp; omega
    have a65536 : decide ((65536 : Int) ≤ c) = false := by simp; omega
    have b983039 : decide (c ≤ (983039 : Int)) = true := by simp; omega
    have hv : Hid (startB c = true) := by show _ = _; unfold startB; simp; omega
    clear k0 k1 k2 k3 k4 k5 k6 k7 k8 k9
    go_enter Try.func63, Try.ntmps63
    go_wp2_with fail
    go_ret
    exact ⟨by rw [hv.out]; rfl, Below.refl _ _⟩
  rcases Int.lt_or_le c 248 with k10 | k10
  · have e95 : (c == 95) = false := by simp; omega
    have e8204 : (c == 8204) = false := by simp; omega
    have e8205 : (c == 8205) = false := by simp; omega
    have a65 : decide ((65 : Int) ≤ c) = true := by simp; omega
    have b90 : decide (c ≤ (90 : Int)) = false := by simp; omega
    have a97 : decide ((97 : Int) ≤ c) = true := by simp; omega
    have b122 : decide (c ≤ (122 : Int)) = false := by simp; omega
    have a192 : decide ((192 : Int) ≤ c) = true := by simp; omega
    have b214 : decide (c ≤ (214 : Int)) = false := by simp; omega
    have a216 : decide ((216 : Int) ≤ c) = true := by simp; omega
    have b246 : decide (c ≤ (246 : Int)) = false := by simp; omega
    have a248 : decide ((248 : Int) ≤ c) = false := by simp; omega
    have b767 : decide (c ≤ (767 : Int)) = true := by simp; omega
    have a880 : decide ((880 : Int) ≤ c) = false := by simp; omega
    have b893 : decide (c ≤ (893 : Int)) = true := by simp; omega
    have a895 : decide ((895 : Int) ≤ c) = false := by simp; omega
    have b8191 : decide (c ≤ (8191 : Int)) = true := by simp; omega
    have a8304 : decide ((8304 : Int) ≤ c) = false := by simp; omega
    have b8591 : decide (c ≤ (8591 : Int)) = true := by simp; omega
    have a11264 : decide ((11264 : Int) ≤ c) = false := by simp; omega
    have b12271 : decide (c ≤ (12271 : Int)) = true := by simp; omega
    have a12289 : decide ((12289 : Int) ≤ c) = false := by simp; omega
    have b55295 : decide (c ≤ (55295 : Int)) = true := by simp; omega
    have a63744 : decide ((63744 : Int) ≤ c) = false := by simp; omega
    have b64975 : decide (c ≤ (64975 : Int)) = true := by simp; omega
    have a65008 : decide ((65008 : Int) ≤ c) = false := by simp; omega
    have b65533 : decide (c ≤ (65533 : Int)) = true := by simp; omega
    have a65536 : decide ((65536 : Int) ≤ c) = false := by simp; omega
    have b983039 : decide (c ≤ (983039 : Int)) = true := by simp; omega
    have hv : Hid (startB c = false) := by show _ = _; unfold startB; simp; omega
    clear k0 k1 k2 k3 k4 k5 k6 k7 k8 k9 k10
    go_enter Try.func63, Try.ntmps63
    go_wp2_with fail
    go_ret
    exact ⟨by rw [hv.out]; rfl, Below.refl _ _⟩
  rcases Int.lt_or_le c 768 with k11 | k11
  · have e95 : (c == 95) = false := by simp; omega
    have e8204 : (c == 8204) = false := by simp; omega
    have e8205 : (c == 8205) = false := by simp; omega
    have a65 : decide ((65 : Int) ≤ c) = true := by simp; omega
    have b90 : decide (c ≤ (90 : Int)) = false := by simp; omega
    have a97 : decide ((97 : Int) ≤ c) = true := by simp; omega
    have b122 : decide (c ≤ (122 : Int)) = false := by simp; omega
    have a192 : decide ((192 : Int) ≤ c) = true := by simp; omega
    have b214 : decide (c ≤ (214 : Int)) = false := by simp; omega
    have a216 : decide ((216 : Int) ≤ c) = true := by simp; omega
    have b246 : decide (c ≤ (246 : Int)) = false := by simp; omega
    have a248 : decide ((248 : Int) ≤ c) = true := by simp; omega
    have b767 : decide (c ≤ (767 : Int)) = true := by simp; omega
    have a880 : decide ((880 : Int) ≤ c) = false := by simp; omega
    have b893 : decide (c ≤ (893 : Int)) = true := by simp; omega
    have a895 : decide ((895 : Int) ≤ c) = false := by simp; omega
    have b8191 : decide (c ≤ (8191 : Int)) = true := by simp; omega
    have a8304 : decide ((8304 : Int) ≤ c) = false := by simp; omega
    have b8591 : decide (c ≤ (8591 : Int)) = true := by simp; omega
    have a11264 : decide ((11264 : Int) ≤ c) = false := by simp; omega
    have b12271 : decide (c ≤ (12271 : Int)) = true := by simp; omega
    have a12289 : decide ((12289 : Int) ≤ c) = false := by simp; omega
    have b55295 : decide (c ≤ (55295 : Int)) = true := by simp; omega
    have a63744 : decide ((63744 : Int) ≤ c) = false := by simp; omega
    have b64975 : decide (c ≤ (64975 : Int)) = true := by simp; omega
    have a65008 : decide ((65008 : Int) ≤ c) = false := by simp; omega
    have b65533 : decide (c ≤ (65533 : Int)) = true := by simp; omega
    have a65536 : decide ((65536 : Int) ≤ c) = false := by simp; omega
    have b983039 : decide (c ≤ (983039 : Int)) = true := by simp; omega
    have hv : Hid (startB c = true) := by show _ = _; unfold startB; simp; omega
    clear k0 k1 k2 k3 k4 k5 k6 k7 k8 k9 k10 k11
    go_enter Try.func63, Try.ntmps63
    go_wp2_with fail
    go_ret
    exact ⟨by rw [hv.out]; rfl, Below.refl _ _⟩
  rcases Int.lt_or_le c 880 with k12 | k12
  · have e95 : (c == 95) = false := by simp; omega
    have e8204 : (c == 8204) = false := by simp; omega
    have e8205 : (c == 8205) = false := by simp; omega
    have a65 : decide ((65 : Int) ≤ c) = true := by simp; omega
    have b90 : decide (c ≤ (90 : Int)) = false := by simp; omega
    have a97 : decide ((97 : Int) ≤ c) = true := by simp; omega
    have b122 : decide (c ≤ (122 : Int)) = false := by simp; omega
    have a192 : decide ((192 : Int) ≤ c) = true := by simp; omega
    have b214 : decide (c ≤ (214 : Int)) = false := by simp; omega
    have a216 : decide ((216 : Int) ≤ c) = true := by simp; omega
    have b246 : decide (c ≤ (246 : Int)) = false := by simp; omega
    have a248 : decide ((248 : Int) ≤ c) = true := by simp; omega
    have b767 : decide (c ≤ (767 : Int)) = false := by simp; omega
    have a880 : decide ((880 : Int) ≤ c) = false := by simp; omega
    have b893 : decide (c ≤ (893 : Int)) = true := by simp; omega
    have a895 : decide ((895 : Int) ≤ c) = false := by simp; omega
    have b8191 : decide (c ≤ (8191 : Int)) = true := by simp; omega
    have a8304 : decide ((8304 : Int) ≤ c) = false := by simp; omega
    have b8591 : decide (c ≤ (8591 : Int)) = true := by simp; omega
    have a11264 : decide ((11264 : Int) ≤ c) = false := by simp; omega
    have b12271 : decide (c ≤ (12271 : Int)) = true := by simp; omega
    have a12289 : decide ((12289 : Int) ≤ c) = false := by simp; omega
    have b55295 : decide (c ≤ (55295 : Int)) = true := by simp; omega
    have a63744 : decide ((63744 : Int) ≤ c) = false := by simp; omega
    have b64975 : decide (c ≤ (64975 : Int)) = true := by simp; omega
    have a65008 : decide ((65008 : Int) ≤ c) = false := by simp; omega
    have b65533 : decide (c ≤ (65533 : Int)) = true := by simp; omega
    have a65536 : decide ((65536 : Int) ≤ c) = false := by simp; omega
    have b983039 : decide (c ≤ (983039 : Int)) = true := by simp; omega
    have hv : Hid (startB c = false) := by show _ = _; unfold startB; simp; omega
    clear k0 k1 k2 k3 k4 k5 k6 k7 k8 k9 k10 k11 k12
    go_enter Try.func63, Try.ntmps63
    go_wp2_with fail
    go_ret
    exact ⟨by rw [hv.out]; rfl, Below.refl _ _⟩
  rcases Int.lt_or_le c 894 with k13 | k13
  · have e95 : (c == 95) = false := by simp; omega
    have e8204 : (c == 8204) = false := by simp; omega
    have e8205 : (c == 8205) = false := by simp; omega
    have a65 : decide ((65 : Int) ≤ c) = true := by simp; omega
    have b90 : decide (c ≤ (90 : Int)) = false := by simp; omega
    have a97 : decide ((97 : Int) ≤ c) = true := by simp; omega
    have b122 : decide (c ≤ (122 : Int)) = false := by simp; omega
    have a192 : decide ((192 : Int) ≤ c) = true := by simp; omega
    have b214 : decide (c ≤ (214 : Int)) = false := by simp; omega
    have a216 : decide ((216 : Int) ≤ c) = true := by simp; omega
    have b246 : decide (c ≤ (246 : Int)) = false := by simp; omega
    have a248 : decide ((248 : Int) ≤ c) = true := by simp; omega
    have b767 : decide (c ≤ (767 : Int)) = false := by simp; omega
    have a880 : decide ((880 : Int) ≤ c) = true := by simp; omega
    have b893 : decide (c ≤ (893 : Int)) = true := by simp; omega
    have a895 : decide ((895 : Int) ≤ c) = false := by simp; omega
    have b8191 : decide (c ≤ (8191 : Int)) = true := by simp; omega
    have a8304 : decide ((8304 : Int) ≤ c) = false := by simp; omega
    have b8591 : decide (c ≤ (8591 : Int)) = true := by simp; omega
    have a11264 : decide ((11264 : Int) ≤ c) = false := by simp; omega
    have b12271 : decide (c ≤ (12271 : Int)) = true := by simp; omega
    have a12289 : decide ((12289 : Int) ≤ c) = false := by simp; omega
    have b55295 : decide (c ≤ (55295 : Int)) = true := by simp; omega
    have a63744 : decide ((63744 : Int) ≤ c) = false := by simp; omega
    have b64975 : decide (c ≤ (64975 : Int)) = true := by simp; omega
    have a65008 : decide ((65008 : Int) ≤ c) = false := by simp; omega
    have b65533 : decide (c ≤ (65533 : Int)) = true := by simp; omega
    have a65536 : decide ((65536 : Int) ≤ c) = false := by simp; omega
    have b983039 : decide (c ≤ (983039 : Int)) = true := by simp; omega
    have hv : Hid (startB c = true) := by show _ = _; unfold startB; simp; omega
    clear k0 k1 k2 k3 k4 k5 k6 k7 k8 k9 k10 k11 k12 k13
    go_enter Try.func63, Try.ntmps63
    go_wp2_with fail
    go_ret
    exact ⟨by rw [hv.out]; rfl, Below.refl _ _⟩
  rcases Int.lt_or_le c 895 with k14 | k14
  · have e95 : (c == 95) = false := by simp; omega
    have e8204 : (c == 8204) = false := by simp; omega
    have e8205 : (c == 8205) = false := by simp; omega
    have a65 : decide ((65 : Int) ≤ c) = true := by simp; omega
    have b90 : decide (c ≤ (90 : Int)) = false := by simp; omega
    have a97 : decide ((97 : Int) ≤ c) = true := by simp; omega
    have b122 : decide (c ≤ (122 : Int)) = false := by simp; omega
    have a192 : decide ((192 : Int) ≤ c) = true := by simp; omega
    have b214 : decide (c ≤ (214 : Int)) = false := by simp; omega
    have a216 : decide ((216 : Int) ≤ c) = true := by simp; omega
    have b246 : decide (c ≤ (246 : Int)) = false := by simp; omega
    have a248 : decide ((248 : Int) ≤ c) = true := by simp; omega
    have b767 : decide (c ≤ (767 : Int)) = false := by simp; omega
    have a880 : decide ((880 : Int) ≤ c) = true := by simp; omega
    have b893 : decide (c ≤ (893 : Int)) = false := by simp; omega
    have a895 : decide ((895 : Int) ≤ c) = false := by simp; omega
    have b8191 : decide (c ≤ (8191 : Int)) = true := by simp; omega
    have a8304 : decide ((8304 : Int) ≤ c) = false := by simp; omega
    have b8591 : decide (c ≤ (8591 : Int)) = true := by simp; omega
    have a11264 : decide ((11264 : Int) ≤ c) = false := by simp; omega
    have b12271 : decide (c ≤ (12271 : Int)) = true := by simp; omega
    have a12289 : decide ((12289 : Int) ≤ c) = false := by simp; omega
    have b55295 : decide (c ≤ (55295 : Int)) = true := by simp; omega
    have a63744 : decide ((63744 : Int) ≤ c) = false := by simp; omega
    have b64975 : decide (c ≤ (64975 : Int)) = true := by simp; omega
    have a65008 : decide ((65008 : Int) ≤ c) = false := by simp; omega
    have b65533 : decide (c ≤ (65533 : Int)) = true := by simp; omega
    have a65536 : decide ((65536 : Int) ≤ c) = false := by simp; omega
    have b983039 : decide (c ≤ (983039 : Int)) = true := by simp; omega
    have hv : Hid (startB c = false) := by show _ = _; unfold startB; simp; omega
    clear k0 k1 k2 k3 k4 k5 k6 k7 k8 k9 k10 k11 k12 k13 k14
    go_enter Try.func63, Try.ntmps63
    go_wp2_with fail
    go_ret
    exact ⟨by rw [hv.out]; rfl, Below.refl _ _⟩
  rcases Int.lt_or_le c 8192 with k15 | k15
  · have e95 : (c == 95) = false := by simp; omega
    have e8204 : (c == 8204) = false := by simp; omega
    have e8205 : (c == 8205) = false := by simp; omega
    have a65 : decide ((65 : Int) ≤ c) = true := by simp; omega
    have b90 : decide (c ≤ (90 : Int)) = false := by simp; omega
    have a97 : decide ((97 : Int) ≤ c) = true := by simp; omega
    have b122 : decide (c ≤ (122 : Int)) = false := by simp; omega
    have a192 : decide ((192 : Int) ≤ c) = true := by simp; omega
    have b214 : decide (c ≤ (214 : Int)) = false := by simp; omega
    have a216 : decide ((216 : Int) ≤ c) = true := by simp; omega
    have b246 : decide (c ≤ (246 : Int)) = false := by simp; omega
    have a248 : decide ((248 : Int) ≤ c) = true := by simp; omega
    have b767 : decide (c ≤ (767 : Int)) = false := by simp; omega
    have a880 : decide ((880 : Int) ≤ c) = true := by simp; omega
    have b893 : decide (c ≤ (893 : Int)) = false := by simp; omega
    have a895 : decide ((895 : Int) ≤ c) = true := by simp; omega
    have b8191 : decide (c ≤ (8191 : Int)) = true := by simp; omega
    have a8304 : decide ((8304 : Int) ≤ c) = false := by simp; omega
    have b8591 : decide (c ≤ (8591 : Int)) = true := by simp; omega
    have a11264 : decide ((11264 : Int) ≤ c) = false := by simp; omega
    have b12271 : decide (c ≤ (12271 : Int)) = true := by simp; omega
    have a12289 : decide ((12289 : Int) ≤ c) = false := by simp; omega
    have b55295 : decide (c ≤ (55295 : Int)) = true := by simp; omega
    have a63744 : decide ((63744 : Int) ≤ c) = false := by simp; omega
    have b64975 : decide (c ≤ (64975 : Int)) = true := by simp; omega
    have a65008 : decide ((65008 : Int) ≤ c) = false := by simp; omega
    have b65533 : decide (c ≤ (65533 : Int)) = true := by simp; omega
    have a65536 : decide ((65536 : Int) ≤ c) = false := by simp; omega
    have b983039 : decide (c ≤ (983039 : Int)) = true := by simp; omega
    have hv : Hid (startB c = true) := by show _ = _; unfold startB; simp; omega
    clear k0 k1 k2 k3 k4 k5 k6 k7 k8 k9 k10 k11 k12 k13 k14 k15
    go_enter Try.func63, Try.ntmps63
    go_wp2_with fail
    go_ret
    exact ⟨by rw [hv.out]; rfl, Below.refl _ _⟩
  rcases Int.lt_or_le c 8204 with k16 | k16
  · have e95 : (c == 95) = false := by simp; omega
    have e8204 : (c == 8204) = false := by simp; omega
    have e8205 : (c == 8205) = false := by simp; omega
    have a65 : decide ((65 : Int) ≤ c) = true := by simp; omega
    have b90 : decide (c ≤ (90 : Int)) = false := by simp; omega
    have a97 : decide ((97 : Int) ≤ c) = true := by simp; omega
    have b122 : decide (c ≤ (122 : Int)) = false := by simp; omega
    have a192 : decide ((192 : Int) ≤ c) = true := by simp; omega
    have b214 : decide (c ≤ (214 : Int)) = false := by simp; omega
    have a216 : decide ((216 : Int) ≤ c) = true := by simp; omega
    have b246 : decide (c ≤ (246 : Int)) = false := by simp; omega
    have a248 : decide ((248 : Int) ≤ c) = true := by simp; omega
    have b767 : decide (c ≤ (767 : Int)) = false := by simp; omega
    have a880 : decide ((880 : Int) ≤ c) = true := by simp; omega
    have b893 : decide (c ≤ (893 : Int)) = false := by simp; omega
    have a895 : decide ((895 : Int) ≤ c) = true := by simp; omega
    have b8191 : decide (c ≤ (8191 : Int)) = false := by simp; omega
    have a8304 : decide ((8304 : Int) ≤ c) = false := by simp; omega
    have b8591 : decide (c ≤ (8591 : Int)) = true := by simp; omega
    have a11264 : decide ((11264 : Int) ≤ c) = false := by simp; omega
    have b12271 : decide (c ≤ (12271 : Int)) = true := by simp; omega
    have a12289 : decide ((12289 : Int) ≤ c) = false := by simp; omega
    have b55295 : decide (c ≤ (55295 : Int)) = true := by simp; omega
    have a63744 : decide ((63744 : Int) ≤ c) = false := by simp; omega
    have b64975 : decide (c ≤ (64975 : Int)) = true := by simp; omega
    have a65008 : decide ((65008 : Int) ≤ c) = false := by simp; omega
    have b65533 : decide (c ≤ (65533 : Int)) = true := by simp; omega
    have a65536 : decide ((65536 : Int) ≤ c) = false := by simp; omega
    have b983039 : decide (c ≤ (983039 : Int)) = true := by simp; omega
    have hv : Hid (startB c = false) := by show _ = _; unfold startB; simp; omega
    clear k0 k1 k2 k3 k4 k5 k6 k7 k8 k9 k10 k11 k12 k13 k14 k15 k16
    go_enter Try.func63, Try.ntmps63
    go_wp2_with fail
    go_ret
    exact ⟨by rw [hv.out]; rfl, Below.refl _ _⟩
  rcases Int.lt_or_le c 8205 with k17 | k17
  · have e95 : (c == 95) = false := by simp; omega
    have e8204 : (c == 8204) = true := by simp; omega
    have e8205 : (c == 8205) = false := by simp; omega
    have a65 : decide ((65 : Int) ≤ c) = true := by simp; omega
    have b90 : decide (c ≤ (90 : Int)) = false := by simp; omega
    have a97 : decide ((97 : Int) ≤ c) = true := by simp; omega
    have b122 : decide (c ≤ (122 : Int)) = false := by simp; omega
    have a192 : decide ((192 : Int) ≤ c) = true := by simp; omega
    have b214 : decide (c ≤ (214 : Int)) = false := by simp; omega
    have a216 : decide ((216 : Int) ≤ c) = true := by simp; omega
    have b246 : decide (c ≤ (246 : Int)) = false := by simp; omega
    have a248 : decide ((248 : Int) ≤ c) = true := by simp; omega
    have b767 : decide (c ≤ (767 : Int)) = false := by simp; omega
    have a880 : decide ((880 : Int) ≤ c) = true := by simp; omega
    have b893 : decide (c ≤ (893 : Int)) = false := by simp; omega
    have a895 : decide ((895 : Int) ≤ c) = true := by simp; omega
    have b8191 : decide (c ≤ (8191 : Int)) = false := by simp; omega
    have a8304 : decide ((8304 : Int) ≤ c) = false := by simp; omega
    have b8591 : decide (c ≤ (8591 : Int)) = true := by simp; omega
    have a11264 : decide ((11264 : Int) ≤ c) = false := by simp; omega
    have b12271 : decide (c ≤ (12271 : Int)) = true := by simp; omega
    have a12289 : decide ((12289 : Int) ≤ c) = false := by simp; omega
    have b55295 : decide (c ≤ (55295 : Int)) = true := by simp; omega
    have a63744 : decide ((63744 : Int) ≤ c) = false := by simp; omega
    have b64975 : decide (c ≤ (64975 : Int)) = true := by simp; omega
    have a65008 : decide ((65008 : Int) ≤ c) = false := by simp; omega
    have b65533 : decide (c ≤ (65533 : Int)) = true := by simp; omega
    have a65536 : decide ((65536 : Int) ≤ c) = false := by simp; omega
    have b983039 : decide (c ≤ (983039 : Int)) = true := by simp; omega
    have hv : Hid (startB c = true) := by show _ = _; unfold startB; simp; omega
    clear k0 k1 k2 k3 k4 k5 k6 k7 k8 k9 k10 k11 k12 k13 k14 k15 k16 k17
    go_enter Try.func63, Try.ntmps63
    go_wp2_with fail
    go_ret
    exact ⟨by rw [hv.out]; rfl, Below.refl _ _⟩
  rcases Int.lt_or_le c 8206 with k18 | k18
  · have e95 : (c == 95) = false := by simp; omega
    have e8204 : (c == 8204) = false := by simp; omega
    have e8205 : (c == 8205) = true := by simp; omega
    have a65 : decide ((65 : Int) ≤ c) = true := by simp; omega
    have b90 : decide (c ≤ (90 : Int)) = false := by simp; omega
    have a97 : decide ((97 : Int) ≤ c) = true := by simp; omega
    have b122 : decide (c ≤ (122 : Int)) = false := by simp; omega
    have a192 : decide ((192 : Int) ≤ c) = true := by simp; omega
    have b214 : decide (c ≤ (214 : Int)) = false := by simp; omega
    have a216 : decide ((216 : Int) ≤ c) = true := by simp; omega
    have b246 : decide (c ≤ (246 : Int)) = false := by simp; omega
    have a248 : decide ((248 : Int) ≤ c) = true := by simp; omega
    have b767 : decide (c ≤ (767 : Int)) = false := by simp; omega
    have a880 : decide ((880 : Int) ≤ c) = true := by simp; omega
    have b893 : decide (c ≤ (893 : Int)) = false := by simp; omega
    have a895 : decide ((895 : Int) ≤ c) = true := by simp; omega
    have b8191 : decide (c ≤ (8191 : Int)) = false := by simp; omega
    have a8304 : decide ((8304 : Int) ≤ c) = false := by simp; omega
    have b8591 : decide (c ≤ (8591 : Int)) = true := by simp; omega
    have a11264 : decide ((11264 : Int) ≤ c) = false := by simp; omega
    have b12271 : decide (c ≤ (12271 : Int)) = true := by simp; omega
    have a12289 : decide ((12289 : Int) ≤ c) = false := by simp; omega
    have b55295 : decide (c ≤ (55295 : Int)) = true := by simp; omega
    have a63744 : decide ((63744 : Int) ≤ c) = false := by simp; omega
    have b64975 : decide (c ≤ (64975 : Int)) = true := by simp; omega
    have a65008 : decide ((65008 : Int) ≤ c) = false := by simp; omega
    have b65533 : decide (c ≤ (65533 : Int)) = true := by simp; omega
    have a65536 : decide ((65536 : Int) ≤ c) = false := by simp; omega
    have b983039 : decide (c ≤ (983039 : Int)) = true := by simp; omega
    have hv : Hid (startB c = true) := by show _ = _; unfold startB; simp; omega
    clear k0 k1 k2 k3 k4 k5 k6 k7 k8 k9 k10 k11 k12 k13 k14 k15 k16 k17 k18
    go_enter Try.func63, Try.ntmps63
    go_wp2_with fail
    go_ret
    exact ⟨by rw [hv.out]; rfl, Below.refl _ _⟩
  rcases Int.lt_or_le c 8304 with k19 | k19
  · have e95 : (c == 95) = false := by simp; omega
    have e8204 : (c == 8204) = false := by simp; omega
    have e8205 : (c == 8205) = false := by simp; omega
    have a65 : decide ((65 : Int) ≤ c) = true := by simp; omega
    have b90 : decide (c ≤ (90 : Int)) = false := by simp; omega
    have a97 : decide ((97 : Int) ≤ c) = true := by simp; omega
    have b122 : decide (c ≤ (122 : Int)) = false := by simp; omega
    have a192 : decide ((192 : Int) ≤ c) = true := by simp; omega
    have b214 : decide (c ≤ (214 : Int)) = false := by simp; omega
    have a216 : decide ((216 : Int) ≤ c) = true := by simp; omega
    have b246 : decide (c ≤ (246 : Int)) = false := by simp; omega
    have a248 : decide ((248 : Int) ≤ c) = true := by simp; omega
    have b767 : decide (c ≤ (767 : Int)) = false := by simp; omega
    have a880 : decide ((880 : Int) ≤ c) = true := by simp; omega
    have b893 : decide (c ≤ (893 : Int)) = false := by simp; omega
    have a895 : decide ((895 : Int) ≤ c) = true := by simp; omega
    have b8191 : decide (c ≤ (8191 : Int)) = false := by simp; omega
    have a8304 : decide ((8304 : Int) ≤ c) = false := by simp; omega
    have b8591 : decide (c ≤ (8591 : Int)) = true := by simp; omega
    have a11264 : decide ((11264 : Int) ≤ c) = false := by simp; omega
    have b12271 : decide (c ≤ (12271 : Int)) = true := by simp; omega
    have a12289 : decide ((12289 : Int) ≤ c) = false := by simp; omega
    have b55295 : decide (c ≤ (55295 : Int)) = true := by simp; omega
    have a63744 : decide ((63744 : Int) ≤ c) = false := by simp; omega
    have b64975 : decide (c ≤ (64975 : Int)) = true := by simp; omega
    have a65008 : decide ((65008 : Int) ≤ c) = false := by simp; omega
    have b65533 : decide (c ≤ (65533 : Int)) = true := by simp; omega
    have a65536 : decide ((65536 : Int) ≤ c) = false := by simp; omega
    have b983039 : decide (c ≤ (983039 : Int)) = true := by simp; omega
    have hv : Hid (startB c = false) := by show _ = _; unfold startB; simp; omega
    clear k0 k1 k2 k3 k4 k5 k6 k7 k8 k9 k10 k11 k12 k13 k14 k15 k16 k17 k18 k19
    go_enter Try.func63, Try.ntmps63
    go_wp2_with fail
    go_ret
    exact ⟨by rw [hv.out]; rfl, Below.refl _ _⟩
  rcases Int.lt_or_le c 8592 with k20 | k20
  · have e95 : (c == 95) = false := by simp; omega
    have e8204 : (c == 8204) = false := by simp; omega
    have e8205 : (c == 8205) = false := by simp; omega
    have a65 : decide ((65 : Int) ≤ c) = true := by simp; omega
    have b90 : decide (c ≤ (90 : Int)) = false := by simp; omega
    have a97 : decide ((97 : Int) ≤ c) = true := by simp; omega
    have b122 : decide (c ≤ (122 : Int)) = false := by simp; omega
    have a192 : decide ((192 : Int) ≤ c) = true := by simp; omega
    have b214 : decide (c ≤ (214 : Int)) = false := by simp; omega
    have a216 : decide ((216 : Int) ≤ c) = true := by simp; omega
    have b246 : decide (c ≤ (246 : Int)) = false := by simp; omega
    have a248 : decide ((248 : Int) ≤ c) = true := by simp; omega
    have b767 : decide (c ≤ (767 : Int)) = false := by simp; omega
    have a880 : decide ((880 : Int) ≤ c) = true := by simp; omega
    have b893 : decide (c ≤ (893 : Int)) = false := by simp; omega
    have a895 : decide ((895 : Int) ≤ c) = true := by simp; omega
    have b8191 : decide (c ≤ (8191 : Int)) = false := by simp; omega
    have a8304 : decide ((8304 : Int) ≤ c) = true := by simp; omega
    have b8591 : decide (c ≤ (8591 : Int)) = true := by simp; omega
    have a11264 : decide ((11264 : Int) ≤ c) = false := by simp; omega
    have b12271 : decide (c ≤ (12271 : Int)) = true := by simp; omega
    have a12289 : decide ((12289 : Int) ≤ c) = false := by simp; omega
    have b55295 : decide (c ≤ (55295 : Int)) = true := by simp; omega
    have a63744 : decide ((63744 : Int) ≤ c) = false := by simp; omega
    have b64975 : decide (c ≤ (64975 : Int)) = true := by simp; omega
    have a65008 : decide ((65008 : Int) ≤ c) = false := by simp; omega
    have b65533 : decide (c ≤ (65533 : Int)) = true := by simp; omega
    have a65536 : decide ((65536 : Int) ≤ c) = false := by simp; omega
    have b983039 : decide (c ≤ (983039 : Int)) = true := by simp; omega
    have hv : Hid (startB c = true) := by show _ = _; unfold startB; simp; omega
    clear k0 k1 k2 k3 k4 k5 k6 k7 k8 k9 k10 k11 k12 k13 k14 k15 k16 k17 k18 k19 k20
    go_enter Try.func63, Try.ntmps63
    go_wp2_with fail
    go_ret
    exact ⟨by rw [hv.out]; rfl, Below.refl _ _⟩
  rcases Int.lt_or_le c 11264 with k21 | k21
  · have e95 : (c == 95) = false := by simp; omega
    have e8204 : (c == 8204) = false := by simp; omega
    have e8205 : (c == 8205) = false := by simp; omega
    have a65 : decide ((65 : Int) ≤ c) = true := by simp; omega
    have b90 : decide (c ≤ (90 : Int)) = false := by simp; omega
    have a97 : decide ((97 : Int) ≤ c) = true := by simp; omega
    have b122 : decide (c ≤ (122 : Int)) = false := by simp; omega
    have a192 : decide ((192 : Int) ≤ c) = true := by simp; omega
    have b214 : decide (c ≤ (214 : Int)) = false := by simp; omega
    have a216 : decide ((216 : Int) ≤ c) = true := by simp; omega
    have b246 : decide (c ≤ (246 : Int)) = false := by simp; omega
    have a248 : decide ((248 : Int) ≤ c) = true := by simp; omega
    have b767 : decide (c ≤ (767 : Int)) = false := by simp; omega
    have a880 : decide ((880 : Int) ≤ c) = true := by simp; omega
    have b893 : decide (c ≤ (893 : Int)) = false := by simp; omega
    have a895 : decide ((895 : Int) ≤ c) = true := by simp; omega
    have b8191 : decide (c ≤ (8191 : Int)) = false := by simp; omega
    have a8304 : decide ((8304 : Int) ≤ c) = true := by simp; omega
    have b8591 : decide (c ≤ (8591 : Int)) = false := by simp; omega
    have a11264 : decide ((11264 : Int) ≤ c) = false := by simp; omega
    have b12271 : decide (c ≤ (12271 : Int)) = true := by simp; omega
    have a12289 : decide ((12289 : Int) ≤ c) = false := by simp; omega
    have b55295 : decide (c ≤ (55295 : Int)) = true := by simp; omega
    have a63744 : decide ((63744 : Int) ≤ c) = false := by simp; omega
    have b64975 : decide (c ≤ (64975 : Int)) = true := by simp; omega
    have a65008 : decide ((65008 : Int) ≤ c) = false := by simp; omega
    have b65533 : decide (c ≤ (65533 : Int)) = true := by simp; omega
    have a65536 : decide ((65536 : Int) ≤ c) = false := by simp; omega
    have b983039 : decide (c ≤ (983039 : Int)) = true := by simp; omega
    have hv : Hid (startB c = false) := by show _ = _; unfold startB; simp; omega
    clear k0 k1 k2 k3 k4 k5 k6 k7 k8 k9 k10 k11 k12 k13 k14 k15 k16 k17 k18 k19 k20 k21
    go_enter Try.func63, Try.ntmps63
    go_wp2_with fail
    go_ret
    exact ⟨by rw [hv.out]; rfl, Below.refl _ _⟩
  rcases Int.lt_or_le c 12272 with k22 | k22
  · have e95 : (c == 95) = false := by simp; omega
    have e8204 : (c == 8204) = false := by simp; omega
    have e8205 : (c == 8205) = false := by simp; omega
    have a65 : decide ((65 : Int) ≤ c) = true := by simp; omega
    have b90 : decide (c ≤ (90 : Int)) = false := by simp; omega
    have a97 : decide ((97 : Int) ≤ c) = true := by simp; omega
    have b122 : decide (c ≤ (122 : Int)) = false := by simp; omega
    have a192 : decide ((192 : Int) ≤ c) = true := by simp; omega
    have b214 : decide (c ≤ (214 : Int)) = false := by simp; omega
    have a216 : decide ((216 : Int) ≤ c) = true := by simp; omega
    have b246 : decide (c ≤ (246 : Int)) = false := by simp; omega
    have a248 : decide ((248 : Int) ≤ c) = true := by simp; omega
    have b767 : decide (c ≤ (767 : Int)) = false := by simp; omega
    have a880 : decide ((880 : Int) ≤ c) = true := by simp; omega
    have b893 : decide (c ≤ (893 : Int)) = false := by simp; omega
    have a895 : decide ((895 : Int) ≤ c) = true := by simp; omega
    have b8191 : decide (c ≤ (8191 : Int)) = false := by simp; omega
    have a8304 : decide ((8304 : Int) ≤ c) = true := by simp; omega
    have b8591 : decide (c ≤ (8591 : Int)) = false := by simp; omega
    have a11264 : decide ((11264 : Int) ≤ c) = true := by simp; omega
    have b12271 : decide (c ≤ (12271 : Int)) = true := by simp; omega
    have a12289 : decide ((12289 : Int) ≤ c) = false := by simp; omega
    have b55295 : decide (c ≤ (55295 : Int)) = true := by simp; omega
    have a63744 : decide ((63744 : Int) ≤ c) = false := by simp; omega
    have b64975 : decide (c ≤ (64975 : Int)) = true := by simp; omega
    have a65008 : decide ((65008 : Int) ≤ c) = false := by simp; omega
    have b65533 : decide (c ≤ (65533 : Int)) = true := by simp; omega
    have a65536 : decide ((65536 : Int) ≤ c) = false := by simp; omega
    have b983039 : decide (c ≤ (983039 : Int)) = true := by simp; omega
    have hv : Hid (startB c = true) := by show _ = _; unfold startB; simp; omega
    clear k0 k1 k2 k3 k4 k5 k6 k7 k8 k9 k10 k11 k12 k13 k14 k15 k16 k17 k18 k19 k20 k21 k22
    go_enter Try.func63, Try.ntmps63
    go_wp2_with fail
    go_ret
    exact ⟨by rw [hv.out]; rfl, Below.refl _ _⟩
  rcases Int.lt_or_le c 12289 with k23 | k23
  · have e95 : (c == 95) = false := by simp; omega
    have e8204 : (c == 8204) = false := by simp; omega
    have e8205 : (c == 8205) = false := by simp; omega
    have a65 : decide ((65 : Int) ≤ c) = true := by simp; omega
    have b90 : decide (c ≤ (90 : Int)) = false := by simp; omega
    have a97 : decide ((97 : Int) ≤ c) = true := by simp; omega
    have b122 : decide (c ≤ (122 : Int)) = false := by simp; omega
    have a192 : decide ((192 : Int) ≤ c) = true := by simp; omega
    have b214 : decide (c ≤ (214 : Int)) = false := by simp; omega
    have a216 : decide ((216 : Int) ≤ c) = true := by simp; omega
    have b246 : decide (c ≤ (246 : Int)) = false := by simp; omega
    have a248 : decide ((248 : Int) ≤ c) = true := by simp; omega
    have b767 : decide (c ≤ (767 : Int)) = false := by simp; omega
    have a880 : decide ((880 : Int) ≤ c) = true := by simp; omega
    have b893 : decide (c ≤ (893 : Int)) = false := by simp; omega
    have a895 : decide ((895 : Int) ≤ c) = true := by simp; omega
    have b8191 : decide (c ≤ (8191 : Int)) = false := by simp; omega
    have a8304 : decide ((8304 : Int) ≤ c) = true := by simp; omega
    have b8591 : decide (c ≤ (8591 : Int)) = false := by simp; omega
    have a11264 : decide ((11264 : Int) ≤ c) = true := by simp; omega
    have b12271 : decide (c ≤ (12271 : Int)) = false := by simp; omega
    have a12289 : decide ((12289 : Int) ≤ c) = false := by simp; omega
    have b55295 : decide (c ≤ (55295 : Int)) = true := by simp; omega
    have a63744 : decide ((63744 : Int) ≤ c) = false := by simp; omega
    have b64975 : decide (c ≤ (64975 : Int)) = true := by simp; omega
    have a65008 : decide ((65008 : Int) ≤ c) = false := by simp; omega
    have b65533 : decide (c ≤ (65533 : Int)) = true := by simp; omega
    have a65536 : decide ((65536 : Int) ≤ c) = false := by simp; omega
    have b983039 : decide (c ≤ (983039 : Int)) = true := by simp; omega
    have hv : Hid (startB c = false) := by show _ = _; unfold startB; simp; omega
    clear k0 k1 k2 k3 k4 k5 k6 k7 k8 k9 k10 k11 k12 k13 k14 k15 k16 k17 k18 k19 k20 k21 k22 k23
    go_enter Try.func63, Try.ntmps63
    go_wp2_with fail
    go_ret
    exact ⟨by rw [hv.out]; rfl, Below.refl _ _⟩
  rcases Int.lt_or_le c 55296 with k24 | k24
  · have e95 : (c == 95) = false := by simp; omega
    have e8204 : (c == 8204) = false := by simp; omega
    have e8205 : (c == 8205) = false := by simp; omega
    have a65 : decide ((65 : Int) ≤ c) = true := by simp; omega
    have b90 : decide (c ≤ (90 : Int)) = false := by simp; omega
    have a97 : decide ((97 : Int) ≤ c) = true := by simp; omega
    have b122 : decide (c ≤ (122 : Int)) = false := by simp; omega
    have a192 : decide ((192 : Int) ≤ c) = true := by simp; omega
    have b214 : decide (c ≤ (214 : Int)) = false := by simp; omega
    have a216 : decide ((216 : Int) ≤ c) = true := by simp; omega
    have b246 : decide (c ≤ (246 : Int)) = false := by simp; omega
    have a248 : decide ((248 : Int) ≤ c) = true := by simp; omega
    have b767 : decide (c ≤ (767 : Int)) = false := by simp; omega
    have a880 : decide ((880 : Int) ≤ c) = true := by simp; omega
    have b893 : decide (c ≤ (893 : Int)) = false := by simp; omega
    have a895 : decide ((895 : Int) ≤ c) = true := by simp; omega
    have b8191 : decide (c ≤ (8191 : Int)) = false := by simp; omega
    have a8304 : decide ((8304 : Int) ≤ c) = true := by simp; omega
    have b8591 : decide (c ≤ (8591 : Int)) = false := by simp; omega
    have a11264 : decide ((11264 : Int) ≤ c) = true := by simp; omega
    have b12271 : decide (c ≤ (12271 : Int)) = false := by simp; omega
    have a12289 : decide ((12289 : Int) ≤ c) = true := by simp; omega
    have b55295 : decide (c ≤ (55295 : Int)) = true := by simp; omega
    have a63744 : decide ((63744 : Int) ≤ c) = false := by simp; omega
    have b64975 : decide (c ≤ (64975 : Int)) = true := by simp; omega
    have a65008 : decide ((65008 : Int) ≤ c) = false := by simp; omega
    have b65533 : decide (c ≤ (65533 : Int)) = true := by simp; omega
    have a65536 : decide ((65536 : Int) ≤ c) = false := by simp; omega
    have b983039 : decide (c ≤ (983039 : Int)) = true := by simp; omega
    have hv : Hid (startB c = true) := by show _ = _; unfold startB; simp; omega
    clear k0 k1 k2 k3 k4 k5 k6 k7 k8 k9 k10 k11 k12 k13 k14 k15 k16 k17 k18 k19 k20 k21 k22 k23 k24
    go_enter Try.func63, Try.ntmps63
    go_wp2_with fail
    go_ret
    exact ⟨by rw [hv.out]; rfl, Below.refl _ _⟩
  rcases Int.lt_or_le c 63744 with k25 | k25
  · have e95 : (c == 95) = false := by simp; omega
    have e8204 : (c == 8204) = false := by simp; omega
    have e8205 : (c == 8205) = false := by simp; omega
    have a65 : decide ((65 : Int) ≤ c) = true := by simp; omega
    have b90 : decide (c ≤ (90 : Int)) = false := by simp; omega
    have a97 : decide ((97 : Int) ≤ c) = true := by simp; omega
    have b122 : decide (c ≤ (122 : Int)) = false := by simp; omega
    have a192 : decide ((192 : Int) ≤ c) = true := by simp; omega
    have b214 : decide (c ≤ (214 : Int)) = false := by simp; omega
    have a216 : decide ((216 : Int) ≤ c) = true := by simp; omega
    have b246 : decide (c ≤ (246 : Int)) = false := by simp; omega
    have a248 : decide ((248 : Int) ≤ c) = true := by simp; omega
    have b767 : decide (c ≤ (767 : Int)) = false := by simp; omega
    have a880 : decide ((880 : Int) ≤ c) = true := by simp; omega
    have b893 : decide (c ≤ (893 : Int)) = false := by simp; omega
    have a895 : decide ((895 : Int) ≤ c) = true := by simp; omega
    have b8191 : decide (c ≤ (8191 : Int)) = false := by simp; omega
    have a8304 : decide ((8304 : Int) ≤ c) = true := by simp; omega
    have b8591 : decide (c ≤ (8591 : Int)) = false := by simp; omega
    have a11264 : decide ((11264 : Int) ≤ c) = true := by simp; omega
    have b12271 : decide (c ≤ (12271 : Int)) = false := by simp; omega
    have a12289 : decide ((12289 : Int) ≤ c) = true := by simp; omega
    have b55295 : decide (c ≤ (55295 : Int)) = false := by simp; omega
    have a63744 : decide ((63744 : Int) ≤ c) = false := by simp; omega
    have b64975 : decide (c ≤ (64975 : Int)) = true := by simp; omega
    have a65008 : decide ((65008 : Int) ≤ c) = false := by simp; omega
    have b65533 : decide (c ≤ (65533 : Int)) = true := by simp; omega
    have a65536 : decide ((65536 : Int) ≤ c) = false := by simp; omega
    have b983039 : decide (c ≤ (983039 : Int)) = true := by simp; omega
    have hv : Hid (startB c = false) := by show _ = _; unfold startB; simp; omega
    clear k0 k1 k2 k3 k4 k5 k6 k7 k8 k9 k10 k11 k12 k13 k14 k15 k16 k17 k18 k19 k20 k21 k22 k23 k24 k25
    go_enter Try.func63, Try.ntmps63
    go_wp2_with fail
    go_ret
    exact ⟨by rw [hv.out]; rfl, Below.refl _ _⟩
  rcases Int.lt_or_le c 64976 with k26 | k26
  · have e95 : (c == 95) = false := by simp; omega
    have e8204 : (c == 8204) = false := by simp; omega
    have e8205 : (c == 8205) = false := by simp; omega
    have a65 : decide ((65 : Int) ≤ c) = true := by simp; omega
    have b90 : decide (c ≤ (90 : Int)) = false := by simp; omega
    have a97 : decide ((97 : Int) ≤ c) = true := by simp; omega
    have b122 : decide (c ≤ (122 : Int)) = false := by simp; omega
    have a192 : decide ((192 : Int) ≤ c) = true := by simp; omega
    have b214 : decide (c ≤ (214 : Int)) = false := by simp; omega
    have a216 : decide ((216 : Int) ≤ c) = true := by simp; omega
    have b246 : decide (c ≤ (246 : Int)) = false := by simp; omega
    have a248 : decide ((248 : Int) ≤ c) = true := by simp; omega
    have b767 : decide (c ≤ (767 : Int)) = false := by simp; omega
    have a880 : decide ((880 : Int) ≤ c) = true := by simp; omega
    have b893 : decide (c ≤ (893 : Int)) = false := by simp; omega
    have a895 : decide ((895 : Int) ≤ c) = true := by simp; omega
    have b8191 : decide (c ≤ (8191 : Int)) = false := by simp; omega
    have a8304 : decide ((8304 : Int) ≤ c) = true := by simp; omega
    have b8591 : decide (c ≤ (8591 : Int)) = false := by simp; omega
    have a11264 : decide ((11264 : Int) ≤ c) = true := by simp; omega
    have b12271 : decide (c ≤ (12271 : Int)) = false := by simp; omega
    have a12289 : decide ((12289 : Int) ≤ c) = true := by simp; omega
    have b55295 : decide (c ≤ (55295 : Int)) = false := by simp; omega
    have a63744 : decide ((63744 : Int) ≤ c) = true := by simp; omega
    have b64975 : decide (c ≤ (64975 : Int)) = true := by simp; omega
    have a65008 : decide ((65008 : Int) ≤ c) = false := by simp; omega
    have b65533 : decide (c ≤ (65533 : Int)) = true := by simp; omega
    have a65536 : decide ((65536 : Int) ≤ c) = false := by simp; omega
    have b983039 : decide (c ≤ (983039 : Int)) = true := by simp; omega
    have hv : Hid (startB c = true) := by show _ = _; unfold startB; simp; omega
    clear k0 k1 k2 k3 k4 k5 k6 k7 k8 k9 k10 k11 k12 k13 k14 k15 k16 k17 k18 k19 k20 k21 k22 k23 k24 k25 k26
    go_enter Try.func63, Try.ntmps63
    go_wp2_with fail
    go_ret
    exact ⟨by rw [hv.out]; rfl, Below.refl _ _⟩
  rcases Int.lt_or_le c 65008 with k27 | k27
  · have e95 : (c == 95) = false := by simp; omega
    have e8204 : (c == 8204) = false := by simp; omega
    have e8205 : (c == 8205) = false := by simp; omega
    have a65 : decide ((65 : Int) ≤ c) = true := by simp; omega
    have b90 : decide (c ≤ (90 : Int)) = false := by simp; omega
    have a97 : decide ((97 : Int) ≤ c) = true := by simp; omega
    have b122 : decide (c ≤ (122 : Int)) = false := by simp; omega
    have a192 : decide ((192 : Int) ≤ c) = true := by simp; omega
    have b214 : decide (c ≤ (214 : Int)) = false := by simp; omega
    have a216 : decide ((216 : Int) ≤ c) = true := by simp; omega
    have b246 : decide (c ≤ (246 : Int)) = false := by simp; omega
    have a248 : decide ((248 : Int) ≤ c) = true := by simp; omega
    have b767 : decide (c ≤ (767 : Int)) = false := by simp; omega
    have a880 : decide ((880 : Int) ≤ c) = true := by simp; omega
    have b893 : decide (c ≤ (893 : Int)) = false := by simp; omega
    have a895 : decide ((895 : Int) ≤ c) = true := by simp; omega
    have b8191 : decide (c ≤ (8191 : Int)) = false := by simp; omega
    have a8304 : decide ((8304 : Int) ≤ c) = true := by simp; omega
    have b8591 : decide (c ≤ (8591 : Int)) = false := by simp; omega
    have a11264 : decide ((11264 : Int) ≤ c) = true := by simp; omega
    have b12271 : decide (c ≤ (12271 : Int)) = false := by simp; omega
    have a12289 : decide ((12289 : Int) ≤ c) = true := by simp; omega
    have b55295 : decide (c ≤ (55295 : Int)) = false := by simp; omega
    have a63744 : decide ((63744 : Int) ≤ c) = true := by simp; omega
    have b64975 : decide (c ≤ (64975 : Int)) = false := by simp; omega
    have a65008 : decide ((65008 : Int) ≤ c) = false := by simp; omega
    have b65533 : decide (c ≤ (65533 : Int)) = true := by simp; omega
    have a65536 : decide ((65536 : Int) ≤ c) = false := by simp; omega
    have b983039 : decide (c ≤ (983039 : Int)) = true := by simp; omega
    have hv : Hid (startB c = false) := by show _ = _; unfold startB; simp; omega
    clear k0 k1 k2 k3 k4 k5 k6 k7 k8 k9 k10 k11 k12 k13 k14 k15 k16 k17 k18 k19 k20 k21 k22 k23 k24 k25 k26 k27
    go_enter Try.func63, Try.ntmps63
    go_wp2_with fail
    go_ret
    exact ⟨by rw [hv.out]; rfl, Below.refl _ _⟩
  rcases Int.lt_or_le c 65534 with k28 | k28
  · have e95 : (c == 95) = false := by simp; omega
    have e8204 : (c == 8204) = false := by simp; omega
    have e8205 : (c == 8205) = false := by simp; omega
    have a65 : decide ((65 : Int) ≤ c) = true := by simp; omega
    have b90 : decide (c ≤ (90 : Int)) = false := by simp; omega
    have a97 : decide ((97 : Int) ≤ c) = true := by simp; omega
    have b122 : decide (c ≤ (122 : Int)) = false := by simp; omega
    have a192 : decide ((192 : Int) ≤ c) = true := by simp; omega
    have b214 : decide (c ≤ (214 : Int)) = false := by simp; omega
    have a216 : decide ((216 : Int) ≤ c) = true := by simp; omega
    have b246 : decide (c ≤ (246 : Int)) = false := by simp; omega
    have a248 : decide ((248 : Int) ≤ c) = true := by simp; omega
    have b767 : decide (c ≤ (767 : Int)) = false := by simp; omega
    have a880 : decide ((880 : Int) ≤ c) = true := by simp; omega
    have b893 : decide (c ≤ (893 : Int)) = false := by simp; omega
    have a895 : decide ((895 : Int) ≤ c) = true := by simp; omega
    have b8191 : decide (c ≤ (8191 : Int)) = false := by simp; omega
    have a8304 : decide ((8304 : Int) ≤ c) = true := by simp; omega
    have b8591 : decide (c ≤ (8591 : Int)) = false := by simp; omega
    have a11264 : decide ((11264 : Int) ≤ c) = true := by simp; omega
    have b12271 : decide (c ≤ (12271 : Int)) = false := by simp; omega
    have a12289 : decide ((12289 : Int) ≤ c) = true := by simp; omega
    have b55295 : decide (c ≤ (55295 : Int)) = false := by simp; omega
    have a63744 : decide ((63744 : Int) ≤ c) = true := by simp; omega
    have b64975 : decide (c ≤ (64975 : Int)) = false := by simp; omega
    have a65008 : decide ((65008 : Int) ≤ c) = true := by simp; omega
    have b65533 : decide (c ≤ (65533 : Int)) = true := by simp; omega
    have a65536 : decide ((65536 : Int) ≤ c) = false := by simp; omega
    have b983039 : decide (c ≤ (983039 : Int)) = true := by simp; omega
    have hv : Hid (startB c = true) := by show _ = _; unfold startB; simp; omega
    clear k0 k1 k2 k3 k4 k5 k6 k7 k8 k9 k10 k11 k12 k13 k14 k15 k16 k17 k18 k19 k20 k21 k22 k23 k24 k25 k26 k27 k28
    go_enter Try.func63, Try.ntmps63
    go_wp2_with fail
    go_ret
    exact ⟨by rw [hv.out]; rfl, Below.refl _ _⟩
  rcases Int.lt_or_le c 65536 with k29 | k29
  · have e95 : (c == 95) = false := by simp; omega
    have e8204 : (c == 8204) = false := by simp; omega
    have e8205 : (c == 8205) = false := by simp; omega
    have a65 : decide ((65 : Int) ≤ c) = true := by simp; omega
    have b90 : decide (c ≤ (90 : Int)) = false := by simp; omega
    have a97 : decide ((97 : Int) ≤ c) = true := by simp; omega
    have b122 : decide (c ≤ (122 : Int)) = false := by simp; omega
    have a192 : decide ((192 : Int) ≤ c) = true := by simp; omega
    have b214 : decide (c ≤ (214 : Int)) = false := by simp; omega
    have a216 : decide ((216 : Int) ≤ c) = true := by simp; omega
    have b246 : decide (c ≤ (246 : Int)) = false := by simp; omega
    have a248 : decide ((248 : Int) ≤ c) = true := by simp; omega
    have b767 : decide (c ≤ (767 : Int)) = false := by simp; omega
    have a880 : decide ((880 : Int) ≤ c) = true := by simp; omega
    have b893 : decide (c ≤ (893 : Int)) = false := by simp; omega
    have a895 : decide ((895 : Int) ≤ c) = true := by simp; omega
    have b8191 : decide (c ≤ (8191 : Int)) = false := by simp; omega
    have a8304 : decide ((8304 : Int) ≤ c) = true := by simp; omega
    have b8591 : decide (c ≤ (8591 : Int)) = false := by simp; omega
    have a11264 : decide ((11264 : Int) ≤ c) = true := by simp; omega
    have b12271 : decide (c ≤ (12271 : Int)) = false := by simp; omega
    have a12289 : decide ((12289 : Int) ≤ c) = true := by simp; omega
    have b55295 : decide (c ≤ (55295 : Int)) = false := by simp; omega
    have a63744 : decide ((63744 : Int) ≤ c) = true := by simp; omega
    have b64975 : decide (c ≤ (64975 : Int)) = false := by simp; omega
    have a65008 : decide ((65008 : Int) ≤ c) = true := by simp; omega
    have b65533 : decide (c ≤ (65533 : Int)) = false := by simp; omega
    have a65536 : decide ((65536 : Int) ≤ c) = false := by simp; omega
    have b983039 : decide (c ≤ (983039 : Int)) = true := by simp; omega
    have hv : Hid (startB c = false) := by show _ = _; unfold startB; simp; omega
    clear k0 k1 k2 k3 k4 k5 k6 k7 k8 k9 k10 k11 k12 k13 k14 k15 k16 k17 k18 k19 k20 k21 k22 k23 k24 k25 k26 k27 k28 k29
    go_enter Try.func63, Try.ntmps63
    go_wp2_with fail
    go_ret
    exact ⟨by rw [hv.out]; rfl, Below.refl _ _⟩
  rcases Int.lt_or_le c 983040 with k30 | k30
  · have e95 : (c == 95) = false := by simp; omega
    have e8204 : (c == 8204) = false := by simp; omega
    have e8205 : (c == 8205) = false := by simp; omega
    have a65 : decide ((65 : Int) ≤ c) = true := by simp; omega
    have b90 : decide (c ≤ (90 : Int)) = false := by simp; omega
    have a97 : decide ((97 : Int) ≤ c) = true := by simp; omega
    have b122 : decide (c ≤ (122 : Int)) = false := by simp; omega
    have a192 : decide ((192 : Int) ≤ c) = true := by simp; omega
    have b214 : decide (c ≤ (214 : Int)) = false := by simp; omega
    have a216 : decide ((216 : Int) ≤ c) = true := by simp; omega
    have b246 : decide (c ≤ (246 : Int)) = false := by simp; omega
    have a248 : decide ((248 : Int) ≤ c) = true := by simp; omega
    have b767 : decide (c ≤ (767 : Int)) = false := by simp; omega
    have a880 : decide ((880 : Int) ≤ c) = true := by simp; omega
    have b893 : decide (c ≤ (893 : Int)) = false := by simp; omega
    have a895 : decide ((895 : Int) ≤ c) = true := by simp; omega
    have b8191 : decide (c ≤ (8191 : Int)) = false := by simp; omega
    have a8304 : decide ((8304 : Int) ≤ c) = true := by simp; omega
    have b8591 : decide (c ≤ (8591 : Int)) = false := by simp; omega
    have a11264 : decide ((11264 : Int) ≤ c) = true := by simp; omega
    have b12271 : decide (c ≤ (12271 : Int)) = false := by simp; omega
    have a12289 : decide ((12289 : Int) ≤ c) = true := by simp; omega
    have b55295 : decide (c ≤ (55295 : Int)) = false := by simp; omega
    have a63744 : decide ((63744 : Int) ≤ c) = true := by simp; omega
    have b64975 : decide (c ≤ (64975 : Int)) = false := by simp; omega
    have a65008 : decide ((65008 : Int) ≤ c) = true := by simp; omega
    have b65533 : decide (c ≤ (65533 : Int)) = false := by simp; omega
    have a65536 : decide ((65536 : Int) ≤ c) = true := by simp; omega
    have b983039 : decide (c ≤ (983039 : Int)) = true := by simp; omega
    have hv : Hid (startB c = true) := by show _ = _; unfold startB; simp; omega
    clear k0 k1 k2 k3 k4 k5 k6 k7 k8 k9 k10 k11 k12 k13 k14 k15 k16 k17 k18 k19 k20 k21 k22 k23 k24 k25 k26 k27 k28 k29 k30
    go_enter Try.func63, Try.ntmps63
    go_wp2_with fail
    go_ret
    exact ⟨by rw [hv.out]; rfl, Below.refl _ _⟩
  have e95 : (c == 95) = false := by simp; omega
  have e8204 : (c == 8204) = false := by simp; omega
  have e8205 : (c == 8205) = false := by simp; omega
  have a65 : decide ((65 : Int) ≤ c) = true := by simp; omega
  have b90 : decide (c ≤ (90 : Int)) = false := by simp; omega
  have a97 : decide ((97 : Int) ≤ c) = true := by simp; omega
  have b122 : decide (c ≤ (122 : Int)) = false := by simp; omega
  have a192 : decide ((192 : Int) ≤ c) = true := by simp; omega
  have b214 : decide (c ≤ (214 : Int)) = false := by simp; omega
  have a216 : decide ((216 : Int) ≤ c) = true := by simp; omega
  have b246 : decide (c ≤ (246 : Int)) = false := by simp; omega
  have a248 : decide ((248 : Int) ≤ c) = true := by simp; omega
  have b767 : decide (c ≤ (767 : Int)) = false := by simp; omega
  have a880 : decide ((880 : Int) ≤ c) = true := by simp; omega
  have b893 : decide (c ≤ (893 : Int)) = false := by simp; omega
  have a895 : decide ((895 : Int) ≤ c) = true := by simp; omega
  have b8191 : decide (c ≤ (8191 : Int)) = false := by simp; omega
  have a8304 : decide ((8304 : Int) ≤ c) = true := by simp; omega
  have b8591 : decide (c ≤ (8591 : Int)) = false := by simp; omega
  have a11264 : decide ((11264 : Int) ≤ c) = true := by simp; omega
  have b12271 : decide (c ≤ (12271 : Int)) = false := by simp; omega
  have a12289 : decide ((12289 : Int) ≤ c) = true := by simp; omega
  have b55295 : decide (c ≤ (55295 : Int)) = false := by simp; omega
  have a63744 : decide ((63744 : Int) ≤ c) = true := by simp; omega
  have b64975 : decide (c ≤ (64975 : Int)) = false := by simp; omega
  have a65008 : decide ((65008 : Int) ≤ c) = true := by simp; omega
  have b65533 : decide (c ≤ (65533 : Int)) = false := by simp; omega
  have a65536 : decide ((65536 : Int) ≤ c) = true := by simp; omega
  have b983039 : decide (c ≤ (983039 : Int)) = false := by simp; omega
  have hv : Hid (startB c = false) := by show _ = _; unfold startB; simp; omega
  clear k0 k1 k2 k3 k4 k5 k6 k7 k8 k9 k10 k11 k12 k13 k14 k15 k16 k17 k18 k19 k20 k21 k22 k23 k24 k25 k26 k27 k28 k29 k30
  go_enter Try.func63, Try.ntmps63
  go_wp2_with fail
  go_ret
  exact ⟨by rw [hv.out]; rfl, Below.refl _ _⟩

theorem RStart_as (c : Int) (w : World) (r : Bool) (h : Hid (startB c = r)) : Calls Try.prog 63 #[.int .i32 c] w (Ret w (.bool r)) := by
  rw [← h.out]; exact RStart_any c w

set_option maxRecDepth 100000 in
set_option maxHeartbeats 4000000 in
theorem RPart_any (c : Int) (w : World) : Calls Try.prog 64 #[.int .i32 c] w (Ret w (.bool (partB c))) := by
  obtain ⟨b, hb⟩ : ∃ b, Hid (startB c = b) := ⟨_, rfl⟩
  cases b with
  | true =>
    have hv : Hid (partB c = true) := by show _ = _; unfold partB; rw [hb.out]; rfl
    go_enter Try.func64, Try.ntmps64
    go_wp2_with fail
    refine (RStart_as c _ _ hb).mono ?_; rintro e w2 ⟨rfl, hb2⟩
    go_wp2_with fail
    go_ret
    exact ⟨by rw [hv.out]; rfl, hb2⟩
  | false =>
    rcases Int.lt_or_le c 45 with k0 | k0
    · have e45 : (c == 45) = false := by simp; omega
      have e46 : (c == 46) = false := by simp; omega
      have e183 : (c == 183) = false := by simp; omega
      have e8255 : (c == 8255) = false := by simp; omega
      have e8256 : (c == 8256) = false := by simp; omega
      have a48 : decide ((48 : Int) ≤ c) = false := by simp; omega
      have b57 : decide (c ≤ (57 : Int)) = true := by simp; omega
      have a768 : decide ((768 : Int) ≤ c) = false := by simp; omega
      have b879 : decide (c ≤ (879 : Int)) = true := by simp; omega
      have hv : Hid (partB c = startB c) := by show _ = _; unfold partB; rw [Bool.or_eq_left_iff_imp]; simp; omega
      clear k0
      go_enter Try.func64, Try.ntmps64
      go_wp2_with fail
      refine (RStart_as c _ _ hb).mono ?_; rintro e w2 ⟨rfl, hb2⟩
      go_wp2_with fail
      go_ret
      exact ⟨by rw [hv.out]; first | rfl | (rw [hb.out]; rfl), hb2⟩
    rcases Int.lt_or_le c 46 with k1 | k1
    · have e45 : (c == 45) = true := by simp; omega
      have e46 : (c == 46) = false := by simp; omega
      have e183 : (c == 183) = false := by simp; omega
      have e8255 : (c == 8255) = false := by simp; omega
      have e8256 : (c == 8256) = false := by simp; omega
      have a48 : decide ((48 : Int) ≤ c) = false := by simp; omega
      have b57 : decide (c ≤ (57 : Int)) = true := by simp; omega
      have a768 : decide ((768 : Int) ≤ c) = false := by simp; omega
      have b879 : decide (c ≤ (879 : Int)) = true := by simp; omega
      have hv : Hid (partB c = true) := by show _ = _; unfold partB; simp; right; omega
      clear k0 k1
      go_enter Try.func64, Try.ntmps64
      go_wp2_with fail
      refine (RStart_as c _ _ hb).mono ?_; rintro e w2 ⟨rfl, hb2⟩
      go_wp2_with fail
      go_ret
      exact ⟨by rw [hv.out]; first | rfl | (rw [hb.out]; rfl), hb2⟩
    rcases Int.lt_or_le c 47 with k2 | k2
    · have e45 : (c == 45) = false := by simp; omega
      have e46 : (c == 46) = true := by simp; omega
      have e183 : (c == 183) = false := by simp; omega
      have e8255 : (c == 8255) = false := by simp; omega
      have e8256 : (c == 8256) = false := by simp; omega
      have a48 : decide ((48 : Int) ≤ c) = false := by simp; omega
      have b57 : decide (c ≤ (57 : Int)) = true := by simp; omega
      have a768 : decide ((768 : Int) ≤ c) = false := by simp; omega
      have b879 : decide (c ≤ (879 : Int)) = true := by simp; omega
      have hv : Hid (partB c = true) := by show _ = _; unfold partB; simp; right; omega
      clear k0 k1 k2
      go_enter Try.func64, Try.ntmps64
      go_wp2_with fail
      refine (RStart_as c _ _ hb).mono ?_; rintro e w2 ⟨rfl, hb2⟩
      go_wp2_with fail
      go_ret
      exact ⟨by rw [hv.out]; first | rfl | (rw [hb.out]; rfl), hb2⟩
    rcases Int.lt_or_le c 48 with k3 | k3
    · have e45 : (c == 45) = false := by simp; omega
      have e46 : (c == 46) = false := by simp; omega
      have e183 : (c == 183) = false := by simp; omega
      have e8255 : (c == 8255) = false := by simp; omega
      have e8256 : (c == 8256) = false := by simp; omega
      have a48 : decide ((48 : Int) ≤ c) = false := by simp; omega
      have b57 : decide (c ≤ (57 : Int)) = true := by simp; omega
      have a768 : decide ((768 : Int) ≤ c) = false := by simp; omega
      have b879 : decide (c ≤ (879 : Int)) = true := by simp; omega
      have hv : Hid (partB c = startB c) := by show _ = _; unfold partB; rw [Bool.or_eq_left_iff_imp]; simp; omega
      clear k0 k1 k2 k3
      go_enter Try.func64, Try.ntmps64
      go_wp2_with fail
      refine (RStart_as c _ _ hb).mono ?_; rintro e w2 ⟨rfl, hb2⟩
      go_wp2_with fail
      go_ret
      exact ⟨by rw [hv.out]; first | rfl | (rw [hb.out]; rfl), hb2⟩
    rcases Int.lt_or_le c 58 with k4 | k4
    · have e45 : (c == 45) = false := by simp; omega
      have e46 : (c == 46) = false := by simp; omega
      have e183 : (c == 183) = false := by simp; omega
      have e8255 : (c == 8255) = false := by simp; omega
      have e8256 : (c == 8256) = false := by simp; omega
      have a48 : decide ((48 : Int) ≤ c) = true := by simp; omega
      have b57 : decide (c ≤ (57 : Int)) = true := by simp; omega
      have a768 : decide ((768 : Int) ≤ c) = false := by simp; omega
      have b879 : decide (c ≤ (879 : Int)) = true := by simp; omega
      have hv : Hid (partB c = true) := by show _ = _; unfold partB; simp; right; omega
      clear k0 k1 k2 k3 k4
      go_enter Try.func64, Try.ntmps64
      go_wp2_with fail
      refine (RStart_as c _ _ hb).mono ?_; rintro e w2 ⟨rfl, hb2⟩
      go_wp2_with fail
      go_ret
      exact ⟨by rw [hv.out]; first | rfl | (rw [hb.out]; rfl), hb2⟩
    rcases Int.lt_or_le c 183 with k5 | k5
    · have e45 : (c == 45) = false := by simp; omega
      have e46 : (c == 46) = false := by simp; omega
      have e183 : (c == 183) = false := by simp; omega
      have e8255 : (c == 8255) = false := by simp; omega
      have e8256 : (c == 8256) = false := by simp; omega
      have a48 : decide ((48 : Int) ≤ c) = true := by simp; omega
      have b57 : decide (c ≤ (57 : Int)) = false := by simp; omega
      have a768 : decide ((768 : Int) ≤ c) = false := by simp; omega
      have b879 : decide (c ≤ (879 : Int)) = true := by simp; omega
      have hv : Hid (partB c = startB c) := by show _ = _; unfold partB; rw [Bool.or_eq_left_iff_imp]; simp; omega
      clear k0 k1 k2 k3 k4 k5
      go_enter Try.func64, Try.ntmps64
      go_wp2_with fail
      refine (RStart_as c _ _ hb).mono ?_; rintro e w2 ⟨rfl, hb2⟩
      go_wp2_with fail
      go_ret
      exact ⟨by rw [hv.out]; first | rfl | (rw [hb.out]; rfl), hb2⟩
    rcases Int.lt_or_le c 184 with k6 | k6
    · have e45 : (c == 45) = false := by simp; omega
      have e46 : (c == 46) = false := by simp; omega
      have e183 : (c == 183) = true := by simp; omega
      have e8255 : (c == 8255) = false := by simp; omega
      have e8256 : (c == 8256) = false := by simp; omega
      have a48 : decide ((48 : Int) ≤ c) = true := by simp; omega
      have b57 : decide (c ≤ (57 : Int)) = false := by simp; omega
      have a768 : decide ((768 : Int) ≤ c) = false := by simp; omega
      have b879 : decide (c ≤ (879 : Int)) = true := by simp; omega
      have hv : Hid (partB c = true) := by show _ = _; unfold partB; simp; right; omega
      clear k0 k1 k2 k3 k4 k5 k6
      go_enter Try.func64, Try.ntmps64
      go_wp2_with fail
      refine (RStart_as c _ _ hb).mono ?_; rintro e w2 ⟨rfl, hb2⟩
      go_wp2_with fail
      go_ret
      exact ⟨by rw [hv.out]; first | rfl | (rw [hb.out]; rfl), hb2⟩
    rcases Int.lt_or_le c 768 with k7 | k7
    · have e45 : (c == 45) = false := by simp; omega
      have e46 : (c == 46) = false := by simp; omega
      have e183 : (c == 183) = false := by simp; omega
      have e8255 : (c == 8255) = false := by simp; omega
      have e8256 : (c == 8256) = false := by simp; omega
      have a48 : decide ((48 : Int) ≤ c) = true := by simp; omega
      have b57 : decide (c ≤ (57 : Int)) = false := by simp; omega
      have a768 : decide ((768 : Int) ≤ c) = false := by simp; omega
      have b879 : decide (c ≤ (879 : Int)) = true := by simp; omega
      have hv : Hid (partB c = startB c) := by show _ = _; unfold partB; rw [Bool.or_eq_left_iff_imp]; simp; omega
      clear k0 k1 k2 k3 k4 k5 k6 k7
      go_enter Try.func64, Try.ntmps64
      go_wp2_with fail
      refine (RStart_as c _ _ hb).mono ?_; rintro e w2 ⟨rfl, hb2⟩
      go_wp2_with fail
      go_ret
      exact ⟨by rw [hv.out]; first | rfl | (rw [hb.out]; rfl), hb2⟩
    rcases Int.lt_or_le c 880 with k8 | k8
    · have e45 : (c == 45) = false := by simp; omega
      have e46 : (c == 46) = false := by simp; omega
      have e183 : (c == 183) = false := by simp; omega
      have e8255 : (c == 8255) = false := by simp; omega
      have e8256 : (c == 8256) = false := by simp; omega
      have a48 : decide ((48 : Int) ≤ c) = true := by simp; omega
      have b57 : decide (c ≤ (57 : Int)) = false := by simp; omega
      have a768 : decide ((768 : Int) ≤ c) = true := by simp; omega
      have b879 : decide (c ≤ (879 : Int)) = true := by simp; omega
      have hv : Hid (partB c = true) := by show _ = _; unfold partB; simp; right; omega
      clear k0 k1 k2 k3 k4 k5 k6 k7 k8
      go_enter Try.func64, Try.ntmps64
      go_wp2_with fail
      refine (RStart_as c _ _ hb).mono ?_; rintro e w2 ⟨rfl, hb2⟩
      go_wp2_with fail
      go_ret
      exact ⟨by rw [hv.out]; first | rfl | (rw [hb.out]; rfl), hb2⟩
    rcases Int.lt_or_le c 8255 with k9 | k9
    · have e45 : (c == 45) = false := by simp; omega
      have e46 : (c == 46) = false := by simp; omega
      have e183 : (c == 183) = false := by simp; omega
      have e8255 : (c == 8255) = false := by simp; omega
      have e8256 : (c == 8256) = false := by simp; omega
      have a48 : decide ((48 : Int) ≤ c) = true := by simp; omega
      have b57 : decide (c ≤ (57 : Int)) = false := by simp; omega
      have a768 : decide ((768 : Int) ≤ c) = true := by simp; omega
      have b879 : decide (c ≤ (879 : Int)) = false := by simp; omega
      have hv : Hid (partB c = startB c) := by show _ = _; unfold partB; rw [Bool.or_eq_left_iff_imp]; simp; omega
      clear k0 k1 k2 k3 k4 k5 k6 k7 k8 k9
      go_enter Try.func64, Try.ntmps64
      go_wp2_with fail
      refine (RStart_as c _ _ hb).mono ?_; rintro e w2 ⟨rfl, hb2⟩
      go_wp2_with fail
      go_ret
      exact ⟨by rw [hv.out]; first | rfl | (rw [hb.out]; rfl), hb2⟩
    rcases Int.lt_or_le c 8256 with k10 | k10
    · have e45 : (c == 45) = false := by simp; omega
      have e46 : (c == 46) = false := by simp; omega
      have e183 : (c == 183) = false := by simp; omega
      have e8255 : (c == 8255) = true := by simp; omega
      have e8256 : (c == 8256) = false := by simp; omega
      have a48 : decide ((48 : Int) ≤ c) = true := by simp; omega
      have b57 : decide (c ≤ (57 : Int)) = false := by simp; omega
      have a768 : decide ((768 : Int) ≤ c) = true := by simp; omega
      have b879 : decide (c ≤ (879 : Int)) = false := by simp; omega
      have hv : Hid (partB c = true) := by show _ = _; unfold partB; simp; right; omega
      clear k0 k1 k2 k3 k4 k5 k6 k7 k8 k9 k10
      go_enter Try.func64, Try.ntmps64
      go_wp2_with fail
      refine (RStart_as c _ _ hb).mono ?_; rintro e w2 ⟨rfl, hb2⟩
      go_wp2_with fail
      go_ret
      exact ⟨by rw [hv.out]; first | rfl | (rw [hb.out]; rfl), hb2⟩
    rcases Int.lt_or_le c 8257 with k11 | k11
    · have e45 : (c == 45) = false := by simp; omega
      have e46 : (c == 46) = false := by simp; omega
      have e183 : (c == 183) = false := by simp; omega
      have e8255 : (c == 8255) = false := by simp; omega
      have e8256 : (c == 8256) = true := by simp; omega
      have a48 : decide ((48 : Int) ≤ c) = true := by simp; omega
      have b57 : decide (c ≤ (57 : Int)) = false := by simp; omega
      have a768 : decide ((768 : Int) ≤ c) = true := by simp; omega
      have b879 : decide (c ≤ (879 : Int)) = false := by simp; omega
      have hv : Hid (partB c = true) := by show _ = _; unfold partB; simp; right; omega
      clear k0 k1 k2 k3 k4 k5 k6 k7 k8 k9 k10 k11
      go_enter Try.func64, Try.ntmps64
      go_wp2_with fail
      refine (RStart_as c _ _ hb).mono ?_; rintro e w2 ⟨rfl, hb2⟩
      go_wp2_with fail
      go_ret
      exact ⟨by rw [hv.out]; first | rfl | (rw [hb.out]; rfl), hb2⟩
    have e45 : (c == 45) = false := by simp; omega
    have e46 : (c == 46) = false := by simp; omega
    have e183 : (c == 183) = false := by simp; omega
    have e8255 : (c == 8255) = false := by simp; omega
    have e8256 : (c == 8256) = false := by simp; omega
    have a48 : decide ((48 : Int) ≤ c) = true := by simp; omega
    have b57 : decide (c ≤ (57 : Int)) = false := by simp; omega
    have a768 : decide ((768 : Int) ≤ c) = true := by simp; omega
    have b879 : decide (c ≤ (879 : Int)) = false := by simp; omega
    have hv : Hid (partB c = startB c) := by show _ = _; unfold partB; rw [Bool.or_eq_left_iff_imp]; simp; omega
    clear k0 k1 k2 k3 k4 k5 k6 k7 k8 k9 k10 k11
    go_enter Try.func64, Try.ntmps64
    go_wp2_with fail
    refine (RStart_as c _ _ hb).mono ?_; rintro e w2 ⟨rfl, hb2⟩
    go_wp2_with fail
    go_ret
    exact ⟨by rw [hv.out]; first | rfl | (rw [hb.out]; rfl), hb2⟩

theorem RPart_as (c : Int) (w : World) (r : Bool) (h : Hid (partB c = r)) : Calls Try.prog 64 #[.int .i32 c] w (Ret w (.bool r)) := by
  rw [← h.out]; exact RPart_any c w
end Go.Proofs.Ytiopijjlkmpikaa
