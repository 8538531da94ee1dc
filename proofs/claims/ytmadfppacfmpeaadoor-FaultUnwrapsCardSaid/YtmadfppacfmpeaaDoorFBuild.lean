/- The argument of the laws, a slice of Steps, and the contract of build. -/
import Derived.Test.YtmadfppacfmpeaaDoorFErr
open Go Go.RowKit
namespace Go.Proofs.YtmadfppacfmpeaaDoor

abbrev Stp := ByteArray × Int

/-- The value is a slice of these Steps. -/
def RdS (w : World) (v : Value) (l : List Stp) : Prop :=
  l.length ≤ maxLen ∧ ((l = [] ∧ ∃ a cap, v = .slice a 0 cap) ∨ ∃ b off cap, v = .slice (some ⟨b, off, none⟩) l.length cap ∧ ∀ (i : Nat) (s : Stp), l[i]? = some s → w.cell? ⟨b, off + i * 2, none⟩ = some (.string s.1) ∧ w.cell? ⟨b, off + i * 2 + 1, none⟩ = some (.int .i64 s.2))

theorem RdS.call {w w' : World} {v : Value} {l : List Stp} (h : RdS w v l) (hb : Below w.heap.size w w') : RdS w' v l := by
  refine ⟨h.1, ?_⟩
  rcases h.2 with h | ⟨b, off, cap, hv, hc⟩
  · exact .inl h
  · refine .inr ⟨b, off, cap, hv, fun i s hi => ?_⟩
    have h1 := hc i s hi
    rw [hb.cell (block_lt_of_cell h1.1), hb.cell (block_lt_of_cell h1.2)]
    exact h1

theorem RdS.open {w : World} {v : Value} {l : List Stp} (h : RdS w v l) : ∃ a cap, v = .slice a l.length cap ∧
    Hid (0 < l.length → ∃ b off, a = some ⟨b, off, none⟩ ∧ ∀ w' : World, Below w.heap.size w w' → ∀ (k : Nat) (s : Stp), l[k]? = some s → w'.cell? ⟨b, off + k * 2, none⟩ = some (.string s.1) ∧ w'.cell? ⟨b, off + k * 2 + 1, none⟩ = some (.int .i64 s.2)) := by
  rcases h.2 with ⟨rfl, a, cap, rfl⟩ | ⟨b, off, cap, rfl, hc⟩
  · exact ⟨a, cap, rfl, fun h => absurd h (by decide)⟩
  · refine ⟨_, cap, rfl, fun _ => ⟨b, off, rfl, fun w' hb k s hk => ?_⟩⟩
    have h1 := hc k s hk
    rw [hb.cell (block_lt_of_cell h1.1), hb.cell (block_lt_of_cell h1.2)]
    exact h1

section
variable {P : Program} {ops : Array Oper} {rest : List Oper} {o : Oper} {a : Act} {w : World} {Q : Exit → Act → World → Prop}
/-- A struct of two cells loaded out of a row. -/
theorem wpList_load2 (hgd : Region.wanted o (yielded ops a.tmps) = true) (ty : TypeId) (x : Operand) (ho : o.op = .load ty x)
    (b off : Nat) (hx : a.eval x = .pointer (some ⟨b, off, none⟩)) (hud : (P.underlying ty).map aggB = some true) (hi : (P.info? ty).map (·.size) = some 2)
    (c0 c1 : Value) (h0 : w.cell? ⟨b, off, none⟩ = some c0) (h1 : w.cell? ⟨b, off + 1, none⟩ = some c1)
    (h : wpList P ops Q rest (a.put o.dst (.agg #[c0, c1])) w) : wpList P ops Q (o :: rest) a w := by
  refine wpList_wanted hgd fun K hK => ?_
  obtain ⟨d, hu, hd⟩ : ∃ d, P.underlying ty = some d ∧ aggB d = true := by
    cases hq : P.underlying ty with
    | none => simp [hq] at hud
    | some d => exact ⟨d, rfl, by simpa [hq] using hud⟩
  cases hq : P.info? ty with
  | none => simp [hq] at hi
  | some i =>
    have hs : i.size = 2 := by simpa [hq] using hi
    have hag : (isAgg ty).run P w = .ok true w := by
      unfold isAgg
      simp only [Sem.run_bind, run_underlying hu, Result.andThen_ok]
      cases d <;> first | rfl | cases hd
    have hr : (Instr.loadAt ty (.pointer (some ⟨b, off, none⟩))).run P w = .ok (.agg #[c0, c1]) w := by
      simp [Instr.loadAt, Instr.sureAddr, loadVar, Sem.run_bind, hag, sizeOf, typeInfo, hq, hs, loadCells, loadCellsFrom, Addr.add, h0, h1, Result.andThen]
    unfold Oper.wp execOp
    simp only [ho, hx, Sem.run_bind, hr, Result.andThen_ok, Sem.run_pure, Oper.upon]
    exact hK _ _ h
end

theorem zeroStep : (Tryd.prog.info? 40).bind (·.zero) = some (.agg #[.string ⟨#[]⟩, .int .i64 0]) := by kernel_rfl
theorem sizeStep : (Tryd.prog.info? 40).map (·.size) = some 2 := by kernel_rfl
theorem aggStep : (Tryd.prog.underlying 40).map aggB = some true := by kernel_rfl

set_option maxHeartbeats 1000000 in
theorem build_calls (l : List Stp) (v : Value) (code : Int) (w : World) (hv : RdS w v l) :
    Calls Tryd.prog 11 #[v, .int .i64 code] w fun e w' => ∃ u, e = .returned u ∧ IsErr w' u l.reverse (.iface 31 (.int .i64 code)) ∧ Below w.heap.size w w' := by
  have hm := hv.1
  unfold maxLen at hm
  obtain ⟨a, cap, rfl, Hc⟩ := hv.open
  clear hv
  have st := St.init w
  go_enter Tryd.func11, Tryd.ntmps11
  go_wp2
  go_loopw [5, 12] (fun err i wr => ∃ k : Int, 0 ≤ k ∧ k ≤ (l.length : Int) ∧ i = .int .i64 k ∧ St w.heap.size w [] wr ∧ IsErr wr err (l.take k.toNat).reverse (.iface 31 (.int .i64 code))) (fun _ i _ => ((l.length : Int) - intOf i).toNat)
  case atStart => exact ⟨0, by omega, by omega, rfl, st, rfl⟩
  case round =>
    obtain ⟨k, k0, k1, rfl, st3, herr⟩ := hrel
    clear st
    have Herr := Lib.hid herr
    obtain ⟨et, eu, rfl⟩ := herr.iface
    clear herr
    by_cases hlt : k < (l.length : Int)
    · obtain ⟨bl, off, rfl, hcell⟩ := Hc.out (by omega)
      have hk : k.toNat < l.length := by omega
      have hget : l[k.toNat]? = some l[k.toNat] := List.getElem?_eq_getElem hk
      have Hcell : Hid (∀ wx : World, Below w.heap.size w wx → wx.cell? ⟨bl, off + k.toNat * 2, none⟩ = some (.string (l[k.toNat]).1) ∧ wx.cell? ⟨bl, off + k.toNat * 2 + 1, none⟩ = some (.int .i64 (l[k.toNat]).2)) := fun wx hb => hcell wx hb _ _ hget
      have Htake : Hid ((l.take (k + 1).toNat).reverse = ((l[k.toNat]).1, (l[k.toNat]).2) :: (l.take k.toNat).reverse) := by
        unfold Hid
        rw [show (k + 1).toNat = k.toNat + 1 by omega, List.take_succ_eq_append_getElem hk, List.reverse_append]
        rfl
      clear hcell hget
      generalize (l[k.toNat]).1 = S at *
      generalize (l[k.toNat]).2 = N at *
      go_wp2_with (first | (refine wpList_load2 rfl 40 _ rfl bl (off + k.toNat * 2) rfl aggStep sizeStep _ _ (Hcell.out _ st3.below).1 (Hcell.out _ st3.below).2 ?_))
      refine (New_calls S N et eu _).mono ?_
      rintro e w5 ⟨b5, rfl, hb5, hrow5, hbel⟩
      have st4 := st3.new #[.string S, .int .i64 N] 40
      have st5 := (st4.call hbel).drop
      have herr5 : IsErr w5 (.iface 44 (.pointer (some ⟨b5, 0, none⟩))) (l.take (k + 1).toNat).reverse (.iface 31 (.int .i64 code)) := by
        rw [Htake.out]
        exact ⟨b5, _, rfl, hrow5, (Herr.out.call ((Below.refl _ _).alloc (Nat.le_refl _) _)).call hbel⟩
      have Herr5 := Lib.hid herr5
      clear herr5 hrow5 hbel hb5 st4 st3 Herr
      go_wp2
      go_roundw
      case rel => exact ⟨k + 1, by omega, by omega, rfl, st5, Herr5.out⟩
      case measure => simp [intOf]; omega
    · have e : l.take k.toNat = l := List.take_of_length_le (by omega)
      rw [e] at Herr
      go_wp2
      go_ret
      exact ⟨_, rfl, Herr.out, st3.below⟩

end Go.Proofs.YtmadfppacfmpeaaDoor
