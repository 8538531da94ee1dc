/- The contract of errors.Is on such an error, the target a code. -/
import Derived.Test.YtmadfppacfmpeaaDoorFFacts
open Go Go.RowKit Go.Extern.Stop Go.Stop Go.Extern
namespace Go.Proofs.YtmadfppacfmpeaaDoor

theorem compErrno : (Tryd.prog.info? 31).map (·.comparable) = some true := by kernel_rfl

theorem methUnF (v : Value) (w : World) : (Go.method 231 44 v "Unwrap").run Tryd.prog w = .ok (17, v) w := by kernel_rfl

/-- Two codes as errors. -/
theorem eqErrno (c x : Int) (w : World) : (binOp .eql 26 (.iface 31 (.int .i64 c)) (.iface 31 (.int .i64 x))).run Tryd.prog w = .ok (.bool (c == x)) w := by
  obtain ⟨i, hi, hcmp⟩ := Option.map_eq_some_iff.1 compErrno
  have h : ∀ d : Nat, (Op.equalIn (d + 2) 26 (.iface 31 (.int .i64 c)) (.iface 31 (.int .i64 x))).run Tryd.prog w = .ok (c == x) w := fun d => by
    simp [Op.equalIn, run_underlying Tryd.underlying26, run_underlying Tryd.underlying31, typeInfo, hi, hcmp]
  simp only [binOp]
  simp [Op.equal, Op.maxDepth, h 9998]

/-- The number of operations of an error. -/
noncomputable def errLen (core : Value) (w : World) (v : Value) : Nat := Classical.epsilon fun n => ∃ l, IsErr w v l core ∧ l.length = n

theorem IsErr.same {w : World} {t : TypeId} {u : Value} (ht : t ≠ 44) : ∀ {l l' : List (ByteArray × Int)} {v : Value}, IsErr w v l (.iface t u) → IsErr w v l' (.iface t u) → l.length = l'.length
  | [], [], _, _, _ => rfl
  | [], _ :: _, _, h, ⟨b, inner, hv, _, _⟩ => by
    rw [show _ = Value.iface t u from h] at hv
    injection hv with h1 _
    exact absurd h1 ht
  | _ :: _, [], _, ⟨b, inner, hv, _, _⟩, h => by
    rw [show _ = Value.iface t u from h] at hv
    injection hv with h1 _
    exact absurd h1 ht
  | _ :: _, _ :: _, _, ⟨b, inner, hv, hc, hi⟩, ⟨b', inner', hv', hc', hi'⟩ => by
    rw [hv] at hv'
    injection hv' with _ h2
    injection h2 with h3
    injection h3 with h4
    injection h4 with h5
    subst h5
    rw [hc] at hc'
    injection hc' with h6
    injection h6 with h7
    simp at h7
    obtain ⟨_, _, rfl⟩ := h7
    simp [IsErr.same ht hi hi']

theorem errLen_eq {w : World} {t : TypeId} {u : Value} (ht : t ≠ 44) {l : List (ByteArray × Int)} {v : Value} (h : IsErr w v l (.iface t u)) : errLen (.iface t u) w v = l.length := by
  obtain ⟨l', h1, h2⟩ := Classical.epsilon_spec (p := fun n => ∃ l, IsErr w v l (.iface t u) ∧ l.length = n) ⟨_, l, h, rfl⟩
  show Classical.epsilon _ = _
  rw [← h2]
  exact IsErr.same ht h1 h

set_option maxHeartbeats 1000000 in
theorem is_calls (l : List (ByteArray × Int)) (v : Value) (c x : Int) (w : World) (h : IsErr w v l (.iface 31 (.int .i64 c))) :
    Calls Tryd.prog 29 #[v, .iface 31 (.int .i64 x), .bool true] w fun e w' => e = .returned (.bool (c == x)) ∧ w' = w := by
  have nF := noIsF
  have nE := noIsE
  have uE := noUnE
  have sE := noUsE
  have hF := hasUnF
  have eE := eqErrno c x
  have hne := fun (p : Value) (q : Value) (wx : World) => run_eql_iface_types (P := Tryd.prog) 44 31 p q Tryd.underlying26 (by decide) wx
  have mU := methUnF
  have Hh := Lib.hid h
  clear h
  go_enter Tryd.func29, Tryd.ntmps29
  go_wp2
  go_loopw [0] (fun err wr => wr = w ∧ ∃ l, IsErr w err l (.iface 31 (.int .i64 c))) (fun err _ => errLen (.iface 31 (.int .i64 c)) w err)
  case atStart => exact ⟨rfl, l, Hh.out⟩
  case round =>
    obtain ⟨rfl, l', h⟩ := hrel
    cases l' with
    | nil =>
      obtain rfl := h
      clear hne
      by_cases hcx : (c == x) = true
      · go_wp2
        go_ret
        exact ⟨congrArg (fun x => Ending.returned (Value.bool x)) hcx.symm, rfl⟩
      · have hcx' : (c == x) = false := by simpa using hcx
        clear hcx
        go_wp2
        go_ret
        exact ⟨congrArg (fun x => Ending.returned (Value.bool x)) hcx'.symm, rfl⟩
    | cons s l' =>
      obtain ⟨b, inner, rfl, hc, hi⟩ := h
      obtain ⟨it, iu, rfl⟩ := hi.iface
      have h2 : wr.cell? ⟨b, 2, none⟩ = some (.iface it iu) := by simp [World.cell?, hc]
      have m0 := errLen_eq (by decide) (show IsErr wr (.iface 44 (.pointer (some ⟨b, 0, none⟩))) (s :: l') (.iface 31 (.int .i64 c)) from ⟨b, _, rfl, hc, hi⟩)
      have m1 := errLen_eq (by decide) hi
      have Hm : Hid (errLen (.iface 31 (.int .i64 c)) wr (.iface it iu) < errLen (.iface 31 (.int .i64 c)) wr (.iface 44 (.pointer (some ⟨b, 0, none⟩)))) := by
        unfold Hid
        rw [m0, m1]
        exact Nat.lt_succ_self _
      have Hi := Lib.hid hi
      clear m0 m1 hc hi
      go_wp2
      go_roundw
      case rel => exact ⟨trivial, l', Hi.out⟩
      case measure => exact Hm.out

theorem typeOfE (v : Value) (w : World) : (Extern.ReflectliteType.typeOf #[.iface 31 v]).run Tryd.prog w = .ok (.iface 71 (.agg #[.pointer (some ⟨4, 31, none⟩)])) w := by kernel_rfl
/-- The model's entry for Comparable. -/
def compEntry : Array Value → Sem Value := Extern.ReflectliteType.method fun t => do Extern.Rtype.noPackHeld "Comparable" t; pure (.bool (← typeInfo t).comparable)
theorem compE (w : World) : (compEntry #[.agg #[.pointer (some ⟨4, 31, none⟩)]]).run Tryd.prog w = .ok (.bool true) w := by kernel_rfl
theorem methComp (v : Value) (w : World) : (Go.method 231 71 v "Comparable").run Tryd.prog w = .ok (69, v) w := by kernel_rfl

set_option maxHeartbeats 1000000 in
theorem Is_calls (l : List (ByteArray × Int)) (v : Value) (c x : Int) (w : World) (h : IsErr w v l (.iface 31 (.int .i64 c))) :
    Calls Tryd.prog 22 #[v, .iface 31 (.int .i64 x)] w fun e w' => e = .returned (.bool (c == x)) ∧ w' = w := by
  have h8 := @run_callFunc_extern Tryd.prog 28 _ Extern.ReflectliteType.typeOf Tryd.func28 (by kernel_rfl) (by kernel_rfl) (by kernel_rfl) (by kernel_rfl)
  have h32 := @run_callFunc_extern Tryd.prog 69 _ compEntry Tryd.func69 (by kernel_rfl) (by kernel_rfl) (by kernel_rfl) (by kernel_rfl)
  have tT := typeOfE
  have cT := compE
  have mR := methComp
  have H1 := Lib.hid (is_calls l v c x w h)
  obtain ⟨t, u, rfl⟩ := h.iface
  clear h
  go_enter Tryd.func22, Tryd.ntmps22
  go_wp2_with (first | (go_at_call 29; refine (H1.out).mono ?_; rintro e wn ⟨rfl, rfl⟩))
  go_ret
  exact ⟨rfl, rfl⟩

end Go.Proofs.YtmadfppacfmpeaaDoor
