/- Parts of the proof that are used by the claim: MDecode. No condition is added here. -/
import Derived.Test.YtlcngapphloafaaGreatDoorPack25
import Derived.WalkMore

/- Package mcodec: Decode ends for every input, and is OK only if the second byte is 2. -/
section
open Go Go.RowKit
namespace Go.Proofs.YtlcngapphloafaaGreatDoor
attribute [local irreducible] Inv.wpInv Mix.wpUp

theorem MCheck_calls (l : List (Int × List Nat)) (v : Value) (w : World) (hv : RdI w v l) : Calls Tryz.prog 35 #[v] w fun e w' => (∃ c, e = .returned (.int .i64 c)) ∧ Below w.heap.size w w' := by
  have HP := Lib.hid (parse_calls l v w hv)
  clear hv
  go_enter Tryz.func35, Tryz.ntmps35
  go_wp2_with (first
    | (go_at_call 64; refine HP.out.mono ?_; rintro e w1 ⟨hb, r, c, rfl⟩))
  go_ret
  exact ⟨⟨_, rfl⟩, hb⟩

theorem fillItem (x : Int × List Nat) (h : x.2.length = 96) : Instr.fill (fun i => some (i * 97, 97)) ((Array.range (1 * 97)).map ((Value.agg (itc (0, zero96)).toArray).cells[· % (Value.agg (itc (0, zero96)).toArray).cells.size]!)) [(0, .agg (itc x).toArray)] = some (itc x).toArray := by
  have hz : ((Array.range (1 * 97)).map ((Value.agg (itc (0, zero96)).toArray).cells[· % (Value.agg (itc (0, zero96)).toArray).cells.size]!)).size = 97 := by simp
  generalize (Array.range (1 * 97)).map ((Value.agg (itc (0, zero96)).toArray).cells[· % (Value.agg (itc (0, zero96)).toArray).cells.size]!) = z at *
  have hc : (Value.agg (itc x).toArray).cells.size = 97 := itc_size x h
  rw [fill_put (off := 0) (by rw [hc]) (by rw [hc, hz]; decide)]
  have e := putAt_mid [] z.toList [] (.agg (itc x).toArray) 0 rfl (by simp [hz, hc])
  simp only [List.nil_append, List.append_nil, Array.toArray_toList] at e
  rw [e]
  simp [Instr.fill, Value.cells]
theorem bytesItem : (Tryz.prog.info? 93).map (·.bytes) = some 104 := by kernel_rfl

theorem item_calls (k : Int) (v : Value) (l : List Nat) (w : World) (hv : RdS w v l) (hl : l.length = payF k) : Calls Tryz.prog 34 #[.int .i64 k, v] w (ItPost k w) := by
  by_cases h1 : k = 1
  · subst h1
    exact item_full v l w hv hl
  · by_cases h3 : k = 3
    · subst h3
      exact item_sib v l w hv hl
    · exact item_none k v w h1 h3

/-- What Decode answers: some items, and a code; OK only if the second byte is 2. -/
def MDecPost (l : List Nat) (w : World) (e : Ending) (w' : World) : Prop := Below w.heap.size w w' ∧ ∃ v c, e = .returned (.tuple #[v, .int .i64 c]) ∧ (c = 0 → l.getD 1 0 = 2)

set_option maxRecDepth 20000 in
set_option maxHeartbeats 1000000 in
theorem mdec_short (l : List Nat) (v : Value) (w : World) (hv : RdS w v l) (hl : l.length < 6) : Calls Tryz.prog 13 #[v] w (MDecPost l w) := by
  have HP := Lib.hid (show MDecPost l w (.returned (.tuple #[.slice none 0 0, .int .i64 5])) w from ⟨Below.refl _ _, _, 5, rfl, fun h => by cases h⟩)
  obtain ⟨_, a, c, rfl, _⟩ := hv
  have h1 : ((l.length : Nat) : Int) < 6 := by omega
  generalize MDecPost l w = R at *
  generalize l.length = n at *
  go_enter Tryz.func13, Tryz.ntmps13
  go_wp2
  go_step3
  go_wp2
  exact HP.out

set_option maxRecDepth 20000 in
set_option maxHeartbeats 1000000 in
theorem mdec_version (l : List Nat) (v : Value) (w : World) (hv : RdS w v l) (hl : 6 ≤ l.length) (hne : l.getD 0 0 ≠ 1) : Calls Tryz.prog 13 #[v] w (MDecPost l w) := by
  have HP := Lib.hid (show MDecPost l w (.returned (.tuple #[.slice none 0 0, .int .i64 6])) w from ⟨Below.refl _ _, _, 6, rfl, fun h => by cases h⟩)
  obtain ⟨a, c, rfl, Hc⟩ := hv.1.open
  obtain ⟨b, off, rfl, hc⟩ := Hc.out (by omega)
  have h0 := hc w (Below.refl _ _) 0 (by omega)
  rw [Nat.add_zero] at h0
  have h1 : (6 : Int) ≤ ((l.length : Nat) : Int) := by omega
  generalize MDecPost l w = R at *
  clear hv Hc hc hl
  generalize l.length = n at *
  generalize l.getD 0 0 = x0 at *
  have h2 : (((x0 : Nat) : Int) != 1) = true := by simp; omega
  clear hne
  go_enter Tryz.func13, Tryz.ntmps13
  go_wp2
  go_step3
  go_wp2
  exact HP.out

set_option maxRecDepth 20000 in
set_option maxHeartbeats 1000000 in
theorem mdec_kind (l : List Nat) (v : Value) (w : World) (hv : RdS w v l) (hl : 6 ≤ l.length) (h1 : l.getD 0 0 = 1) (hne : l.getD 1 0 ≠ 2) : Calls Tryz.prog 13 #[v] w (MDecPost l w) := by
  have HP := Lib.hid (show MDecPost l w (.returned (.tuple #[.slice none 0 0, .int .i64 7])) w from ⟨Below.refl _ _, _, 7, rfl, fun h => by cases h⟩)
  obtain ⟨a, c, rfl, Hc⟩ := hv.1.open
  obtain ⟨b, off, rfl, hc⟩ := Hc.out (by omega)
  have c0 := hc w (Below.refl _ _) 0 (by omega)
  have c1 := hc w (Below.refl _ _) 1 (by omega)
  rw [Nat.add_zero, h1] at c0
  have h3 : (6 : Int) ≤ ((l.length : Nat) : Int) := by omega
  generalize MDecPost l w = R at *
  clear hv Hc hc hl h1
  generalize l.length = n at *
  generalize l.getD 1 0 = x1 at *
  have h2 : (((x1 : Nat) : Int) != 2) = true := by simp; omega
  clear hne
  go_enter Tryz.func13, Tryz.ntmps13
  go_wp2
  go_step3
  go_wp2
  exact HP.out

theorem own_form {w : World} {base n size : Nat} {e : TypeId} {v : Value} {xs : List Value} (h : w.ownsRow base e size v n xs) : ∃ a c, v = .slice a n c := by
  rcases h.2 with ⟨rfl, rfl⟩ | ⟨g, cap, cur, rfl, _⟩
  · exact ⟨none, 0, rfl⟩
  · exact ⟨_, cap, rfl⟩
def sliceLen : Value → Nat
  | .slice _ n _ => n
  | _ => 0
set_option maxRecDepth 20000 in
set_option maxHeartbeats 4000000 in
theorem mdec_main (l : List Nat) (v : Value) (w : World) (hv : RdS w v l) (hl : 6 ≤ l.length) (hlm : l.length ≤ 20000) (hby : ∀ x ∈ l, x < 256) (h1 : l.getD 0 0 = 1) (h2 : l.getD 1 0 = 2) : Calls Tryz.prog 13 #[v] w (MDecPost l w) := by
  have HP := Lib.hid (fun e w' v c (hb : Below w.heap.size w w') (he : e = .returned (.tuple #[v, .int .i64 c])) => (show MDecPost l w e w' from ⟨hb, v, c, he, fun _ => h2⟩))
  have HV := Lib.hid hv
  obtain ⟨a, c, rfl, hcap⟩ := hv.2
  obtain ⟨a', c', he, Hc⟩ := hv.1.open
  obtain ⟨rfl, rfl⟩ : a = a' ∧ c = c' := by injection he with h1 h2 h3; exact ⟨h1, h3⟩
  obtain ⟨b, off, rfl, hc⟩ := Hc.out (by omega)
  have c0 := hc w (Below.refl _ _) 0 (by omega)
  have c1 := hc w (Below.refl _ _) 1 (by omega)
  rw [Nat.add_zero, h1] at c0
  rw [h2] at c1
  have hC := Lib.hid (fun k (hk : k < 4) => hc w (Below.refl _ _) (2 + k) (by omega))
  have h3 : (6 : Int) ≤ ((l.length : Nat) : Int) := by omega
  have hs1 : ∀ wx, (Instr.slice 22 (.slice (some ⟨b, off, none⟩) l.length c) (some (.int .i64 2)) (some (.int .i64 6)) none).run Tryz.prog wx = .ok (.slice (some ⟨b, off + 2, none⟩) 4 (c - 2)) wx := fun wx => by
    have h := run_slice_both sliceU8 sizeU8 (some ⟨b, off, none⟩) l.length c .i64 .i64 2 6 (by omega) (by omega) wx
    refine h.trans ?_
    rw [subA, if_neg (by omega)]
    simp [addPlain2]
  have hs2 : ∀ wx, (Instr.slice 22 (.slice (some ⟨b, off, none⟩) l.length c) (some (.int .i64 6)) none none).run Tryz.prog wx = .ok (.slice (subA (some ⟨b, off, none⟩) c 6) (l.length - 6) (c - 6)) wx := fun wx => run_slice_from sliceU8 sizeU8 (some ⟨b, off, none⟩) l.length c .i64 6 hl wx
  have HV6 : Hid (RdS w (.slice (subA (some ⟨b, off, none⟩) c 6) (l.length - 6) (c - 6)) (l.drop 6)) := by
    have h := hv.sub 6 l.length hl (Nat.le_refl _)
    rwa [List.take_of_length_le (by simp)] at h
  have hl6 : (l.drop 6).length = l.length - 6 := by simp
  have HL6 := Lib.hid hl6
  generalize subA (some ⟨b, off, none⟩) c 6 = a6 at *
  have st := St.init w
  clear hv Hc hc he h1 h2 HV
  go_enter Tryz.func13, Tryz.ntmps13
  go_wp2
  go_step3
  go_upto_region 9 with (first | (fail "x"))
  go_loopw [4, 28] (fun cnt i wr => ∃ (k : Nat) (C : Int), k ≤ 4 ∧ cnt = .int .i64 C ∧ i = .int .i64 (k : Nat) ∧ wr = w) (fun _ i _ => (4 - intOf i).toNat)
  case atStart => exact ⟨0, 0, Nat.zero_le _, rfl, rfl, rfl⟩
  case round =>
    obtain ⟨k, C, hk, rfl, rfl, hw⟩ := hrel
    replace hw := hw.symm
    subst hw
    by_cases hlt : k < 4
    · have hki : ((k : Nat) : Int) < 4 := by omega
      have hck := hC.out k hlt
      rw [← Nat.add_assoc] at hck
      go_wp2
      go_roundw
      case rel => exact ⟨k + 1, _, hlt, rfl, rfl, trivial⟩
      case measure => simp [intOf]; omega
    · obtain rfl : k = 4 := by omega
      clear hs1 hC hlt hk c0 c1
      go_upto_region 15 with (first | (fail "x"))
      go_step3
      go_upto_region 15 with (first | (fail "x"))
      go_loopw [7, 8] (fun out rest wq => ∃ (its : List (Int × List Nat)) (l' : List Nat) (a8 : Option Addr) (c8 : Nat), (∀ x ∈ its, x.2.length = 96) ∧ its.length + l'.length ≤ l.length ∧ wq.ownsRow w.heap.size 93 97 out its.length (its.flatMap itc) ∧ rest = .slice a8 l'.length c8 ∧ RdS w (.slice a8 l'.length c8) l' ∧ (∀ x ∈ l', x < 256) ∧ St w.heap.size w [] wq) (fun _ rest _ => sliceLen rest)
      case atStart => exact ⟨[], l.drop 6, a6, c - 6, fun x hx => (List.not_mem_nil hx).elim, by simp, World.ownsRow_nil _ _ _ _, by rw [HL6.out], by rw [HL6.out]; exact HV6.out, fun x hx => hby x (List.mem_of_mem_drop hx), st⟩
      case round =>
        obtain ⟨its, l', a8, c8, h96, hlen, hown, rfl, hrd, hby', stq⟩ := hrel
        obtain ⟨a7, c7, rfl⟩ := own_form hown
        clear st
        by_cases hr0 : l'.length = 0
        · have HRI : Hid (RdI wr (.slice a7 its.length c7) its) := RdI.own h96 (by omega) hown
          have HB := Lib.hid stq.below
          rw [hr0]
          clear hown hrd hby' stq hlen hr0 HV6
          by_cases hC : (its.length : Int) = C
          · subst hC
            go_wp2_with (first
              | (go_at_call 35; refine (MCheck_calls its _ _ HRI.out).mono ?_; rintro e w2 ⟨⟨cc, rfl⟩, hb2⟩; have hfin := HB.out.trans (hb2.mono HB.out.size)))
            all_goals
              rw [Exit.noGoto_ret]
              go_ret2
              exact HP.out _ _ _ _ hfin rfl
          · have hne : ((its.length : Int) != C) = true := by simp [hC]
            go_wp2
            rw [Exit.noGoto_ret]
            go_ret2
            exact HP.out _ _ _ _ HB.out rfl
        · have hr1 : (0 : Int) < (l'.length : Nat) := by omega
          by_cases hcn : (its.length : Int) < C
          · have HV8 := Lib.hid hrd
            obtain ⟨a', c', he, Hc8⟩ := hrd.1.open
            obtain ⟨rfl, rfl⟩ : a8 = a' ∧ c8 = c' := by injection he with h1 h2 h3; exact ⟨h1, h3⟩
            obtain ⟨b8, o8, rfl, hc8⟩ := Hc8.out (by omega)
            have hcell := hc8 wr stq.below 0 (by omega)
            rw [Nat.add_zero] at hcell
            have hx0 : l'.getD 0 0 < 256 := by
              rw [List.getD_eq_getElem?_getD, List.getElem?_eq_getElem (by omega : 0 < l'.length)]
              exact hby' _ (List.getElem_mem _)
            obtain ⟨_, aq, cq, hq, hcap8⟩ := hrd
            obtain ⟨rfl, rfl⟩ : some ⟨b8, o8, none⟩ = aq ∧ c8 = cq := by injection hq with h1 h2 h3; exact ⟨h1, h3⟩
            generalize l'.getD 0 0 = x0 at *
            have HPay := Lib.hid (payload_calls (x0 : Nat) wr)
            have HIt := Lib.hid (item_calls (x0 : Nat))
            have hmi : ((payF (x0 : Nat) : Nat) : Int) ≤ 64 := by unfold payF; split <;> (try split) <;> decide
            generalize payF (x0 : Nat) = m at *
            have HB := Lib.hid stq.below
            by_cases hbr : l'.length < 1 + m
            · have hbi : ((l'.length : Nat) : Int) < 1 + (m : Nat) := by omega
              clear hown hby' hlen HV6 HIt hc8 Hc8 he hq
              go_wp2_with (first
                | (go_at_call 33; refine HPay.out.mono ?_; rintro e w2 ⟨rfl, rfl⟩))
              go_ret2
              exact HP.out _ _ _ _ HB.out rfl
            · have hbi : 1 + ((m : Nat) : Int) ≤ (l'.length : Nat) := by omega
              have hs3 : ∀ wx, (Instr.slice 22 (.slice (some ⟨b8, o8, none⟩) l'.length c8) (some (.int .i64 1)) (some (.int .i64 (1 + (m : Nat)))) none).run Tryz.prog wx = .ok (.slice (subA (some ⟨b8, o8, none⟩) c8 1) m (c8 - 1)) wx := fun wx => by
                have h := run_slice_both sliceU8 sizeU8 (some ⟨b8, o8, none⟩) l'.length c8 .i64 .i64 1 (1 + m) (by omega) (by omega) wx
                rw [show ((1 + m : Nat) : Int) = 1 + (m : Int) by omega, show 1 + m - 1 = m by omega] at h
                exact h
              have hs4 : ∀ wx, (Instr.slice 22 (.slice (some ⟨b8, o8, none⟩) l'.length c8) (some (.int .i64 (1 + (m : Nat)))) none none).run Tryz.prog wx = .ok (.slice (subA (some ⟨b8, o8, none⟩) c8 (1 + m)) (l'.length - (1 + m)) (c8 - (1 + m))) wx := fun wx => by
                have h := run_slice_from sliceU8 sizeU8 (some ⟨b8, o8, none⟩) l'.length c8 .i64 (1 + m) (by omega) wx
                rw [show ((1 + m : Nat) : Int) = 1 + (m : Int) by omega] at h
                exact h
              have hd1 : ((l'.drop 1).take m).length = m := by simp; omega
              have HR1 : Hid (RdS w (.slice (subA (some ⟨b8, o8, none⟩) c8 1) m (c8 - 1)) ((l'.drop 1).take m)) := by
                have h := HV8.out.sub 1 (1 + m) (by omega) (by omega)
                rwa [show 1 + m - 1 = m by omega, show subV (.slice (some ⟨b8, o8, none⟩) l'.length c8) 1 (1 + m) = .slice (subA (some ⟨b8, o8, none⟩) c8 1) (1 + m - 1) (c8 - 1) from rfl, show 1 + m - 1 = m by omega] at h
              have HR2 : Hid (RdS w (.slice (subA (some ⟨b8, o8, none⟩) c8 (1 + m)) (l'.length - (1 + m)) (c8 - (1 + m))) (l'.drop (1 + m))) := by
                have h := HV8.out.sub (1 + m) l'.length (by omega) (Nat.le_refl _)
                rwa [List.take_of_length_le (by simp)] at h
              have hd2 : (l'.drop (1 + m)).length = l'.length - (1 + m) := by simp
              have HD2 := Lib.hid hd2
              have HItm := Lib.hid (fun wx (hb : Below w.heap.size w wx) => HIt.out _ _ wx (HR1.out.call hb) hd1)
              have HNx : Hid (∀ (li : List Nat) (v' : Value) wy, li.length = 96 → St w.heap.size w [] wy → wy.ownsRow w.heap.size 93 97 v' (its.length + 1) (its.flatMap itc ++ (itc (((x0 : Nat) : Int), li)).toArray.toList) →
                  ∃ (its' : List (Int × List Nat)) (l'' : List Nat) (a8' : Option Addr) (c8' : Nat), (∀ x ∈ its', x.2.length = 96) ∧ its'.length + l''.length ≤ l.length ∧ wy.ownsRow w.heap.size 93 97 v' its'.length (its'.flatMap itc) ∧ Value.slice (subA (some ⟨b8, o8, none⟩) c8 (1 + m)) (l'.length - (1 + m)) (c8 - (1 + m)) = .slice a8' l''.length c8' ∧ RdS w (.slice a8' l''.length c8') l'' ∧ (∀ x ∈ l'', x < 256) ∧ St w.heap.size w [] wy) := fun li v' wy h1 h2 h3 => by
                refine ⟨its ++ [(((x0 : Nat) : Int), li)], l'.drop (1 + m), _, _, fun x hx => ?_, ?_, ?_, by rw [HD2.out], by rw [HD2.out]; exact HR2.out, fun x hx => hby' x (List.mem_of_mem_drop hx), h2⟩
                · rcases List.mem_append.1 hx with hx | hx
                  · exact h96 x hx
                  · rw [List.mem_singleton.1 hx]; exact h1
                · rw [List.length_append, HD2.out, List.length_singleton]; omega
                · rw [List.length_append, List.length_singleton, List.flatMap_append]
                  simpa using h3
              have hnl : its.length ≤ 20000 := by omega
              have Hown := Lib.hid hown
              clear hown hby' hlen HV6 HIt hc8 Hc8 he hq HR1 HR2 HV8 hd1 hd2 h96
              generalize subA (some ⟨b8, o8, none⟩) c8 (1 + m) = a9 at *
              generalize subA (some ⟨b8, o8, none⟩) c8 1 = a10 at *
              go_wp2_with (first
                | (go_at_call 33; refine HPay.out.mono ?_; rintro e w2 ⟨rfl, rfl⟩)
                | (go_at_call 34; refine (HItm.out _ HB.out).mono ?_; rintro e w3 ⟨li, hli, rfl, hb3⟩; have st3 := stq.call hb3; have hown3 := own_call Hown.out hb3; clear stq; have HF := Lib.hid (fillItem (((x0 : Nat) : Int), li) hli); have HX9 := Lib.hid (itc_size (((x0 : Nat) : Int), li) hli))
                | ((with_reducible refine at_buildSlice 46 ?_); refine wpList_buildSlice st3 rfl 46 1 _ rfl 93 sliceItem _ 97 zeroItem sizeItem (by decide) (by decide) [(0, .agg (itc (((x0 : Nat) : Int), li)).toArray)] ?_ _ HF.out ?_; (· first | (simp [Act.eval]; done) | rfl); intro b9 w4 st4 hb4; have hown4 := own_call hown3 hb4; have hrow4 := st4.at (i := 0) rfl; have st5 := st4.drop; have hbs := st5.size; clear st3 st4 hown3 hb3 hb4)
                | (at_builtin; refine wpList_appendOwn2 (base := w.heap.size) st5 _ (fun p hp => (List.not_mem_nil hp).elim) (Nat.le_refl _) rfl _ _ 46 rfl 93 _ 97 104 sliceItem zeroItem sizeItem bytesItem rfl (by decide) its.length (its.flatMap itc) rfl hown4 b9 1 1 (itc (((x0 : Nat) : Int), li)).toArray 93 rfl (by rw [HX9.out]) hrow4 (itc_one _) (by unfold maxLen; omega) (by omega) hbs ?_; intro v' w6 st6 hown6 hg6; clear st5 hown4 hrow4 hbs))
              go_roundw
              case rel =>
                obtain ⟨its', l'', a8', c8', h1, h2, h3, h4, h5, h6, _⟩ := HNx.out li v' w6 hli st6 hown6
                injection h4 with e1 e2 e3
                exact ⟨its', fun k b hb => h1 (k, b) hb, l'', h2, h3, a8', c8', ⟨e1, e2, e3⟩, h5, h6⟩
              case measure => show l'.length - (1 + m) < l'.length; omega
          · have HB := Lib.hid stq.below
            clear hown hrd hby' stq hlen hr0 HV6
            go_wp2
            go_ret2
            exact HP.out _ _ _ _ HB.out rfl

end Go.Proofs.YtlcngapphloafaaGreatDoor
end
