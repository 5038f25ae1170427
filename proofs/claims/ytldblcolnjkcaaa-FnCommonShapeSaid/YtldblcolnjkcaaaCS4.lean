/- The law on common shapes: the walk. No conditions. -/
import Derived.Test.YtldblcolnjkcaaaCS1
import Derived.Test.YtldblcolnjkcaaaCS2
import Derived.Test.YtldblcolnjkcaaaCS3
import Derived.Test.YtldblcolnjkcaaaZ3
import Derived.Test.YtldblcolnjkcaaaNV1
import Derived.Test.YtldblcolnjkcaaaLEa
import Derived.Test.YtldblcolnjkcaaaGF
import Derived.Test.YtldblcolnjkcaaaGv
import Derived.Test.YtldblcolnjkcaaaGp
namespace Go.Proofs.Ytldblcolnjkcaaa
open Go.RowKit

set_option maxRecDepth 100000 in
set_option maxHeartbeats 6400000 in
theorem FnCommonShape_walk (v : Value) (n : Nat) (w : World) (h : BytesV w v n) :
    Calls Try.prog 7 #[v] w fun e w' => e = .returned (.bool true) ∧ Below w.heap.size w w' := by
  have hv := h
  obtain ⟨A, c, rfl, h1, h2, -⟩ := h
  by_cases hn : 1048576 < n
  · have hni : (1048576 : Int) < (n : Int) := by omega
    go_enter Try.func7, Try.ntmps7
    go_wp2
    go_ret
    exact ⟨rfl, Below.refl _ _⟩
  have hni : ¬ (1048576 : Int) < (n : Int) := by omega
  go_enter Try.func7, Try.ntmps7
  go_wp2_with fail
  refine (DrawCommonShape_any _ n _ hv).mono ?_; rintro e w1 ⟨u, u2, X, Y, rfl, hX, hY, hlX, hlY, hz⟩
  obtain ⟨A1, c1, rfl, -⟩ := id hX
  obtain ⟨A2, c2, rfl, -⟩ := id hY
  clear hv h1 h2
  go_wp2_with fail
  refine (CommonShape_any _ _ X Y _ hX hY).mono ?_; rintro e w2 ⟨r, rfl, hr, hb⟩
  obtain ⟨A3, c3, rfl⟩ := hr.form
  have hX := hX.nx hb
  have hY := hY.nx hb
  have hz := hz.nx hb hz.size
  clear hb
  go_wp2_with fail
  refine (sCommonShape_any _ _ X Y _ hX hY).mono ?_; rintro e w3 ⟨r2, rfl, hr2, hb⟩
  obtain ⟨A4, c4, rfl⟩ := hr2.form
  have hr := hr.nx hb
  have hX := hX.nx hb
  have hY := hY.nx hb
  have hz := hz.nx hb hz.size
  clear hb
  cases hok : okCommon X Y
  · go_wp2_with fail
    refine (equalInts_same _ _ _ _ hr.ints hr2.ints).mono ?_; rintro e w4 ⟨rfl, hb⟩
    have hr := hr.nx hb
    have hr2 := hr2.nx hb
    have hz := hz.nx hb hz.size
    clear hb
    go_wp2_with fail
    refine (equalInts_same _ _ _ _ hr.ints hr2.ints).mono ?_; rintro e w5 ⟨rfl, hb⟩
    go_wp2
    go_ret
    exact ⟨rfl, hz.nx hb hz.size⟩
  have HSX := hid (common_spread hok)
  have HCM := hid (common_comm hok)
  have HSY := hid (common_spread HCM.out.1)
  have HSE := hid (common_self (okCommon_parts hok).2.2.2.1)
  clear hok
  go_wp2_with fail
  refine (equalInts_same _ _ _ _ hr.ints hr2.ints).mono ?_; rintro e w4 ⟨rfl, hb⟩
  have hr := hr.nx hb
  have hX := hX.nx hb
  have hY := hY.nx hb
  have hz := hz.nx hb hz.size
  clear hb hr2
  obtain ⟨Z, hZ⟩ : ∃ Z, commonL X Y = Z := ⟨_, rfl⟩
  rw [hZ] at hr HSX HCM HSE ⊢
  have HCS := hid (fun (w' : World) (v v' : Value) (a : Ints w' v Y) (b : Ints w' v' X) => CommonShape_any v v' Y X w' a b)
  have HSELF := hid (fun (w' : World) (v : Value) (a : Ints w' v Z) => CommonShape_any v v Z Z w' a a)
  have hcm := HCM.out
  rw [hcm.1, hcm.2] at HCS
  rw [hcm.2] at HSY
  rw [HSE.out.1, HSE.out.2] at HSELF
  clear hcm hZ HCM HSE

  go_wp2_with fail
  refine (NewView_any _ X _ hX).mono ?_; rintro e wp1 ⟨s1, t1, rfl, ho1, hp1, -, hb⟩
  have hX := hX.nx hb
  have hY := hY.nx hb
  have hr := hr.nx hb
  have hz := hz.nx hb hz.size
  have hV1 := ho1.view hp1
  clear hb ho1 hp1
  have HSp := HSX.out
  obtain ⟨Vp, hVp⟩ : ∃ V, newL X = V := ⟨_, rfl⟩
  rw [hVp] at hV1 HSp ⊢
  have HSp := hid HSp
  clear hVp
  go_wp2_with fail
  refine (SpreadTo_any _ _ Vp Z _ hV1 hr.ints).mono ?_; rintro e wp2 ⟨s2, t2, rfl, ho2, hp2, -, hb⟩
  obtain ⟨Ap5, cp5, rfl⟩ := ho2.form
  obtain ⟨Ap6, cp6, rfl⟩ := hp2.form
  clear ho2 hp2
  rw [HSp.out]
  have hX := hX.nx hb
  have hY := hY.nx hb
  have hr := hr.nx hb
  have hz := hz.nx hb hz.size
  clear hb hV1 HSp
  have hg3 := below_alloc wp2 (.cells #[.int .i64 (spreadL Vp Z).base, .slice Ap5 (spreadL Vp Z).shape.length cp5, .slice Ap6 (spreadL Vp Z).strides.length cp6] 43)
  have hX := hX.nx hg3
  have hY := hY.nx hg3
  have hr := hr.nx hg3
  have hz := hz.nx hg3 hz.size
  clear hg3
  go_upto_region 9 with fail
  generalize wp2.alloc (.cells #[.int .i64 (spreadL Vp Z).base, .slice Ap5 (spreadL Vp Z).shape.length cp5, .slice Ap6 (spreadL Vp Z).strides.length cp6] 43) = w5 at *

  go_wp2_with fail
  refine (NewView_any _ Y _ hY).mono ?_; rintro e wq1 ⟨s1, t1, rfl, ho1, hp1, -, hb⟩
  have hX := hX.nx hb
  have hY := hY.nx hb
  have hr := hr.nx hb
  have hz := hz.nx hb hz.size
  have hV1 := ho1.view hp1
  clear hb ho1 hp1
  have HSq := HSY.out
  obtain ⟨Vq, hVq⟩ : ∃ V, newL Y = V := ⟨_, rfl⟩
  rw [hVq] at hV1 HSq ⊢
  have HSq := hid HSq
  clear hVq
  go_wp2_with fail
  refine (SpreadTo_any _ _ Vq Z _ hV1 hr.ints).mono ?_; rintro e wq2 ⟨s2, t2, rfl, ho2, hp2, -, hb⟩
  obtain ⟨Aq5, cq5, rfl⟩ := ho2.form
  obtain ⟨Aq6, cq6, rfl⟩ := hp2.form
  clear ho2 hp2
  rw [HSq.out]
  have hX := hX.nx hb
  have hY := hY.nx hb
  have hr := hr.nx hb
  have hz := hz.nx hb hz.size
  clear hb hV1 HSq
  have hg3 := below_alloc wq2 (.cells #[.int .i64 (spreadL Vq Z).base, .slice Aq5 (spreadL Vq Z).shape.length cq5, .slice Aq6 (spreadL Vq Z).strides.length cq6] 43)
  have hX := hX.nx hg3
  have hY := hY.nx hg3
  have hr := hr.nx hg3
  have hz := hz.nx hg3 hz.size
  clear hg3
  go_upto_region 10 with fail
  generalize wq2.alloc (.cells #[.int .i64 (spreadL Vq Z).base, .slice Aq5 (spreadL Vq Z).shape.length cq5, .slice Aq6 (spreadL Vq Z).strides.length cq6] 43) = w6 at *

  go_wp2_with fail
  refine (HCS.out _ _ _ hY hX).mono ?_; rintro e w7 ⟨r7, rfl, hr7, hb⟩
  obtain ⟨A7, c7, rfl⟩ := hr7.form
  have hr := hr.nx hb
  have hz := hz.nx hb hz.size
  clear hb
  go_wp2_with fail
  refine (HSELF.out _ _ hr.ints).mono ?_; rintro e w8 ⟨r8, rfl, hr8, hb⟩
  obtain ⟨A8, c8, rfl⟩ := hr8.form
  have hr := hr.nx hb
  have hr7 := hr7.nx hb
  have hz := hz.nx hb hz.size
  clear hb
  go_wp2_with fail
  refine (equalInts_same _ _ _ _ hr7.ints hr.ints).mono ?_; rintro e w9 ⟨rfl, hb⟩
  have hr := hr.nx hb
  have hr8 := hr8.nx hb
  have hz := hz.nx hb hz.size
  clear hb
  go_wp2_with fail
  refine (equalInts_same _ _ _ _ hr8.ints hr.ints).mono ?_; rintro e w10 ⟨rfl, hb⟩
  go_wp2
  go_ret
  exact ⟨rfl, hz.nx hb hz.size⟩

end Go.Proofs.Ytldblcolnjkcaaa
