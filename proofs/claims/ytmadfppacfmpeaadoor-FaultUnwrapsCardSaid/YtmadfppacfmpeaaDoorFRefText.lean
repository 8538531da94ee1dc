/- The reference's texts: the contract of Text. -/
import Derived.Test.YtmadfppacfmpeaaDoorFDec
open Go Go.RowKit Go.Extern.Stop Go.Stop Go.Extern
namespace Go.Proofs.YtmadfppacfmpeaaDoor
attribute [local irreducible] Inv.wpInv Mix.wpUp

/-- The Step's numbers are of this size. -/
def StpOk (s : Stp) : Prop := s.1.size ≤ 5000 ∧ -9223372036854775808 ≤ s.2 ∧ s.2 ≤ 9223372036854775807
theorem errTxt_size (c : Int) (hc : (numB c).size ≤ 21) : ∀ l : List Stp, (∀ s ∈ l, StpOk s) → (errTxt c l).size ≤ 27 + 5024 * l.length
  | [], _ => by
    simp only [errTxt, sizeApp]
    show 6 + _ ≤ _
    simp
    omega
  | s :: l, h => by
    have h1 := h s (List.mem_cons_self ..)
    have h2 := numB_size s.2 h1.2.1 h1.2.2
    have h3 := errTxt_size c hc l (fun x hx => h x (List.mem_cons_of_mem _ hx))
    have h4 := h1.1
    simp only [errTxt, sizeApp, List.length_cons]
    show s.1.size + 1 + _ + 2 + _ ≤ _
    omega

set_option maxHeartbeats 1000000 in
theorem Text_calls (l : List Stp) (v : Value) (code : Int) (w : World) (hv : RdS w v l) (hl : l.length ≤ 300) (hs : ∀ s ∈ l, StpOk s) (c0 : -9223372036854775808 ≤ code) (c1 : code ≤ 9223372036854775807) :
    Calls Tryd.prog 12 #[v, .int .i64 code] w fun e w' => e = .returned (.string (errTxt code l.reverse)) ∧ Below w.heap.size w w' := by
  have hm := hv.1
  unfold maxLen at hm
  obtain ⟨a, cap, rfl, Hc⟩ := hv.open
  clear hv
  have HD : Hid (∀ wx : World, Calls Tryd.prog 20 #[.int .i64 code] wx fun e w' => e = .returned (.string (numB code)) ∧ Below wx.heap.size wx w') := fun wx => (Decimal_calls code c0 c1 wx).mono fun e w' ⟨h1, h2⟩ => ⟨h1, by rw [h2]; exact Below.refl _ _⟩
  have hcs := numB_size code c0 c1
  have HC := Lib.hid hcs
  have HS := Lib.hid hs
  clear hs
  have st := St.init w
  have e0 : errTxt code [] = ⟨#[101, 114, 114, 111, 114, 32]⟩ ++ numB code := rfl
  have He0 := Lib.hid e0
  clear e0
  generalize hN : numB code = NC at *
  go_enter Tryd.func12, Tryd.ntmps12
  go_wp2_with (first | (go_at_call 20; refine (HD.out _).mono ?_; rintro e wn ⟨rfl, hbel⟩; have stn := st.call hbel; clear hbel))
  go_loopw [5, 6] (fun s i wr => ∃ k : Int, 0 ≤ k ∧ k ≤ (l.length : Int) ∧ i = .int .i64 k ∧ s = .string (errTxt code (l.take k.toNat).reverse) ∧ St w.heap.size w [] wr) (fun _ i _ => ((l.length : Int) - intOf i).toNat)
  case atStart => exact ⟨0, by omega, by omega, rfl, congrArg Value.string (He0.out.symm), stn⟩
  case round =>
    obtain ⟨k, k0, k1, rfl, rfl, st3⟩ := hrel
    clear st stn
    by_cases hlt : k < (l.length : Int)
    · obtain ⟨bl, off, rfl, hcell⟩ := Hc.out (by omega)
      have hk : k.toNat < l.length := by omega
      have hget : l[k.toNat]? = some l[k.toNat] := List.getElem?_eq_getElem hk
      have hok := HS.out _ (List.getElem_mem hk)
      have Hcell : Hid (∀ wx : World, Below w.heap.size w wx → wx.cell? ⟨bl, off + k.toNat * 2, none⟩ = some (.string (l[k.toNat]).1) ∧ wx.cell? ⟨bl, off + k.toNat * 2 + 1, none⟩ = some (.int .i64 (l[k.toNat]).2)) := fun wx hb => hcell wx hb _ _ hget
      have Htake : Hid (errTxt code (l.take (k + 1).toNat).reverse = (l[k.toNat]).1 ++ ⟨#[32]⟩ ++ numB (l[k.toNat]).2 ++ ⟨#[58, 32]⟩ ++ errTxt code (l.take k.toNat).reverse) := by
        unfold Hid
        rw [show (k + 1).toNat = k.toNat + 1 by omega, List.take_succ_eq_append_getElem hk, List.reverse_append]
        rfl
      have hT : (errTxt code (l.take k.toNat).reverse).size ≤ 27 + 5024 * 300 := by
        have h := errTxt_size code (by rw [hN]; exact HC.out) (l.take k.toNat).reverse (fun s hs => HS.out s (List.mem_of_mem_take (List.mem_reverse.1 hs)))
        rw [List.length_reverse, List.length_take] at h
        omega
      have HD2 : Hid (∀ wx : World, Calls Tryd.prog 20 #[.int .i64 (l[k.toNat]).2] wx fun e w' => e = .returned (.string (numB (l[k.toNat]).2)) ∧ Below wx.heap.size wx w') := fun wx => (Decimal_calls _ hok.2.1 hok.2.2 wx).mono fun e w' ⟨h1, h2⟩ => ⟨h1, by rw [h2]; exact Below.refl _ _⟩
      have hNs := numB_size _ hok.2.1 hok.2.2
      have hSs := hok.1
      clear hcell hget hok
      generalize errTxt code (l.take k.toNat).reverse = T at *
      generalize numB (l[k.toNat]).2 = NN at *
      generalize (l[k.toNat]).1 = S at *
      generalize (l[k.toNat]).2 = N at *
      go_wp2
      refine region_inv 17 st3 mixed (by kernel_rfl) ?_
      intro I hI hI'
      have q : ∀ wx, I wx → (wx.cell? ⟨bl, off + k.toNat * 2, none⟩ = some (.string S) ∧ wx.cell? ⟨bl, off + k.toNat * 2 + 1, none⟩ = some (.int .i64 N)) := fun wx hw => Hcell.out wx (hI wx hw).below
      simp only [List.take_succ_cons, List.take_zero, List.drop_succ_cons, List.drop_zero]
      iterate 5
        (refine Inv.wpInv_step (fun K hK => ?_); go_simp; apply inv_run; · (intro wx hw; have q1 := q wx hw; go_simp; (try go_ints); (try go_simp); (try (rw [if_pos (by omega)])); (try go_simp); (first | done | rfl))
         refine hK _ ?_; clear hK K)
      (refine Inv.wpInv_step (fun K hK => ?_); go_simp; apply inv_run; · (intro wx hw; go_simp; (try simp only [ByteArray.size_append]); rw [if_neg (by first | omega | (show ¬ (9223372036854775807 < S.size + 1 + NN.size + 2) ; omega) | (show ¬ (9223372036854775807 < S.size + 1 + NN.size + 2 + T.size) ; omega))])
       refine hK _ ?_; clear hK K)
      iterate 5
        (refine Inv.wpInv_step (fun K hK => ?_); go_simp; apply inv_run; · (intro wx hw; have q1 := q wx hw; go_simp; (try go_ints); (try go_simp); (try (rw [if_pos (by omega)])); (try go_simp); (first | done | rfl))
         refine hK _ ?_; clear hK K)
      (refine Inv.wpInv_step (fun K hK => ?_); go_simp; refine inv_call hI hI' 20 _ ?_ (fun wx stx => HD2.out wx) ?_; · (intro wx hw; go_simp)
       refine hK _ ?_; clear hK K)
      iterate 2
        (refine Inv.wpInv_step (fun K hK => ?_); go_simp; apply inv_run; · (intro wx hw; go_simp; (try simp only [ByteArray.size_append]); rw [if_neg (by first | omega | (show ¬ (9223372036854775807 < S.size + 1 + NN.size + 2) ; omega) | (show ¬ (9223372036854775807 < S.size + 1 + NN.size + 2 + T.size) ; omega))])
         refine hK _ ?_; clear hK K)
      iterate 1
        (refine Inv.wpInv_step (fun K hK => ?_); go_simp; apply inv_run; · (intro wx hw; have q1 := q wx hw; go_simp; (try go_ints); (try go_simp); (try (rw [if_pos (by omega)])); (try go_simp); (first | done | rfl))
         refine hK _ ?_; clear hK K)
      (refine Inv.wpInv_step (fun K hK => ?_); go_simp; apply inv_run; · (intro wx hw; go_simp; (try simp only [ByteArray.size_append]); rw [if_neg (by first | omega | (show ¬ (9223372036854775807 < S.size + 1 + NN.size + 2) ; omega) | (show ¬ (9223372036854775807 < S.size + 1 + NN.size + 2 + T.size) ; omega))])
       refine hK _ ?_; clear hK K)
      iterate 1
        (refine Inv.wpInv_step (fun K hK => ?_); go_simp; apply inv_run; · (intro wx hw; have q1 := q wx hw; go_simp; (try go_ints); (try go_simp); (try (rw [if_pos (by omega)])); (try go_simp); (first | done | rfl))
         refine hK _ ?_; clear hK K)
      refine Inv.wpInv_nil ?_
      intro w9 st9
      clear hI hI'
      go_wp2
      go_roundw
      case rel => exact ⟨k + 1, by omega, by omega, rfl, congrArg Value.string Htake.out.symm, st9⟩
      case measure => simp [intOf]; omega
    · have e : l.take k.toNat = l := List.take_of_length_le (by omega)
      rw [e]
      clear e
      go_wp2
      go_ret
      exact ⟨rfl, st3.below⟩

end Go.Proofs.YtmadfppacfmpeaaDoor
