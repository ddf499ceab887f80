/- GridScale: for every unit, size and number it returns true. No condition. -/
import Derived.Test.YtnalbkjbidaojaaGridSteps
import Derived.Test.YtnalbkjbidaojaaNumL
namespace Go.Proofs.Ytnalbkjbidaojaa
open Go.RowKit

set_option maxHeartbeats 1000000 in
set_option maxRecDepth 100000 in
theorem gridScale_walk (u p n : Int) (w : World) (hu0 : -9223372036854775808 ≤ u) (hu1 : u ≤ 9223372036854775807) (hn0 : -9223372036854775808 ≤ n) (hn1 : n ≤ 9223372036854775807) :
    Calls Try.prog 3 #[.int .i64 u, .int .i64 p, .int .i64 n] w fun e w' => e = .returned (.bool true) ∧ Below w.heap.size w w' := by
  have HC1 := Lib.hid (gscale_all u p n)
  have HC2 := Lib.hid (rscale_any u p n)
  have HU := Lib.hid (And.intro (And.intro hu0 hu1) (And.intro hn0 hn1))
  clear hu0 hu1 hn0 hn1
  go_enter Try.func3, Try.ntmps3
  go_wp2_with fail
  refine (shown_any _).mono ?_
  rintro e w1 ⟨rfl, hx1⟩
  have HB := Lib.hid hx1
  clear hx1
  go_wp2_with fail
  have HS := Lib.hid (wrap64_range (16 + bits .and .i64 u 4095))
  generalize wrap64 (16 + bits .and .i64 u 4095) = sm at *
  generalize wrap64 (1 + bits .and .i64 p 255) = px at *
  generalize wrap64 (bits .and .i64 n 65535 - 32768) = nr at *
  go_loopw [11] (fun i wr => ∃ k : Int, i = .int .i64 k ∧ -1 ≤ k ∧ k ≤ 2 ∧ Below w.heap.size w wr) (fun i _ => (2 - intOf i).toNat)
  case atStart => exact ⟨-1, rfl, by omega, by omega, HB.out⟩
  case round =>
    obtain ⟨k, rfl, hk0, hk1, hb⟩ := hrel
    have HBW := Lib.hid hb
    clear hb HB
    by_cases hk : k < 2
    · have HN := Lib.hid (wrap64_range (nr + k))
      go_wp2_with fail
      generalize hv : wrap64 (nr + k) = v at *
      refine (gscale_all sm px v _ HN.out.1 HN.out.2 HS.out.1 HS.out.2).mono ?_
      rintro e w2 ⟨rfl, hb2⟩
      go_wp2_with fail
      rw [hv]
      refine (rscale_any sm px v _ HN.out.1 HN.out.2 HS.out.1 HS.out.2).mono ?_
      rintro e w3 ⟨rfl, hb3⟩
      have HEND := Lib.hid (HBW.out.trans ((hb2.trans (hb3.mono hb2.size)).mono HBW.out.size))
      clear hb2 hb3
      generalize gsc sm px v = r at *
      go_wp2_with fail
      exact ⟨⟨k + 1, by first | rfl | go_num, by omega, by omega, HEND.out⟩, by simp [intOf]; omega⟩
    · have ek : k = 2 := by omega
      subst ek
      clear hk hk0 hk1
      go_wp2_with fail
      refine (HC1.out _ HU.out.2.1 HU.out.2.2 HU.out.1.1 HU.out.1.2).mono ?_
      rintro e w2 ⟨rfl, hb2⟩
      go_wp2_with fail
      refine (HC2.out _ HU.out.2.1 HU.out.2.2 HU.out.1.1 HU.out.1.2).mono ?_
      rintro e w3 ⟨rfl, hb3⟩
      have HEND := Lib.hid (HBW.out.trans ((hb2.trans (hb3.mono hb2.size)).mono HBW.out.size))
      clear hb2 hb3
      clear HC1 HC2
      generalize gsc u p n = r at *
      go_wp2
      go_ret
      exact ⟨by first | rfl | simp, HEND.out⟩
end Go.Proofs.Ytnalbkjbidaojaa
