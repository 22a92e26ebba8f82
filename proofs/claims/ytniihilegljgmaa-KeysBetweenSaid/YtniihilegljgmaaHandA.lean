import Derived.Test.YtniihilegljgmaaPx0
import Derived.Test.YtniihilegljgmaaPx1
import Derived.WalkLawsBesides
namespace Go.Proofs.Ytniihilegljgmaa.P
open Go.RowKit Go.Proofs.YtniihilegljgmaaW.PrintWords Go.Proofs.YtniihilegljgmaaW.PrintLast Go.Proofs.YtniihilegljgmaaW.PrintMore
set_option linter.unusedVariables false
set_option linter.unusedSimpArgs false
attribute [local go_sem high] eqA38
def value_Check.f (a0_0 : Int) (a0_1 : Int) (a0_2 : ByteArray) : Option (Int) :=
  some (if (a0_0 = 1 ∧ a0_2.toList = [] ∧ -2147483647 ≤ a0_1 ∧ a0_1 ≤ 2147483647) ∨ (a0_0 = 2 ∧ a0_1 = 0 ∧ a0_2.size ≤ 40) then 0 else 10)
set_option maxHeartbeats 8000000 in
set_option maxRecDepth 100000 in
theorem value_Check.calls (a0_0 : Int) (a0_1 : Int) (a0_2 : ByteArray) (r : Int) (w : World) (h : value_Check.f a0_0 a0_1 a0_2 = some r) :
    Calls Try.prog 33 #[.agg #[.int .i64 a0_0, .int .i64 a0_1, .string a0_2]] w fun e w' => e = .returned (.int .i64 r) ∧ Below w.heap.size w w' := by
  have hu38 := Try.underlying38
  have HB := Aside0.mk (Below.refl w.heap.size w)
  have H := Aside0.mk (Option.some.inj h)
  clear h
  go_enter Try.func33, Try.ntmps33
  go_wp2
  all_goals
    go_ret
    refine ⟨?_, by repeat (first | exact HB.out | apply below_alloc | apply pw_below_drewN | apply below_drew1)⟩
    have H1 := H.out
    clear H HB
    subst H1
    congr 2
    simp_all
    try omega
def cmp_Compare_int.f (a0 : Int) (a1 : Int) : Option (Int) := some (if a0 < a1 then -1 else if a1 < a0 then 1 else 0)
set_option maxHeartbeats 8000000 in
set_option maxRecDepth 100000 in
theorem cmp_Compare_int.calls (a0 : Int) (a1 : Int) (r : Int) (w : World) (h : cmp_Compare_int.f a0 a1 = some r) :
    Calls Try.prog 35 #[.int .i64 a0, .int .i64 a1] w fun e w' => e = .returned (.int .i64 r) ∧ Drawn0 w w' := by
  have H := Aside0.mk (Option.some.inj h)
  clear h
  go_enter Try.func35, Try.ntmps35
  go_wp2
  all_goals
    go_ret
    refine ⟨?_, by repeat (first | exact Drawn0.refl _ | apply Drawn0.step)⟩
    have H1 := H.out
    clear H
    subst H1
    congr 2
    simp_all
    try omega

def cmp_Compare_int64.f (a0 : Int) (a1 : Int) : Option (Int) := some (if a0 < a1 then -1 else if a1 < a0 then 1 else 0)
set_option maxHeartbeats 8000000 in
set_option maxRecDepth 100000 in
theorem cmp_Compare_int64.calls (a0 : Int) (a1 : Int) (r : Int) (w : World) (h : cmp_Compare_int64.f a0 a1 = some r) :
    Calls Try.prog 41 #[.int .i64 a0, .int .i64 a1] w fun e w' => e = .returned (.int .i64 r) ∧ Drawn0 w w' := by
  have H := Aside0.mk (Option.some.inj h)
  clear h
  go_enter Try.func41, Try.ntmps41
  go_wp2
  all_goals
    go_ret
    refine ⟨?_, by repeat (first | exact Drawn0.refl _ | apply Drawn0.step)⟩
    have H1 := H.out
    clear H
    subst H1
    congr 2
    simp_all
    try omega

def cmp_Compare_string.f (a0 : ByteArray) (a1 : ByteArray) : Option (Int) := some (if Op.bytesLess a0.toList a1.toList = true then -1 else if a0.toList = a1.toList then 0 else 1)
set_option maxHeartbeats 8000000 in
set_option maxRecDepth 100000 in
theorem cmp_Compare_string.calls (a0 : ByteArray) (a1 : ByteArray) (r : Int) (w : World) (h : cmp_Compare_string.f a0 a1 = some r) :
    Calls Try.prog 42 #[.string a0, .string a1] w fun e w' => e = .returned (.int .i64 r) ∧ Drawn0 w w' := by
  have H := Aside0.mk (Option.some.inj h)
  clear h
  go_enter Try.func42, Try.ntmps42
  go_wp2
  all_goals
    go_ret
    refine ⟨?_, by repeat (first | exact Drawn0.refl _ | apply Drawn0.step)⟩
    have H1 := H.out
    clear H
    subst H1
    congr 2
    simp_all
end Go.Proofs.Ytniihilegljgmaa.P
