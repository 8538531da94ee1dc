/- The walk of BitmapOrder. -/
import Derived.Test.YtdkkklhpfflpkaaBmLists
open Go Go.RowKit
namespace Go.Proofs.Ytdkkklhpfflpkaa
attribute [local irreducible] Inv.wpInv Mix.wpUp

theorem Up.own {I : World → Prop} (h : Mix.Up I) (base : Nat) (e : TypeId) (size : Nat) (v : Value) (n : Nat) (xs : List Value) : Mix.Up (fun w => I w ∧ w.ownsRow base e size v n xs) := fun w w' hi hb => ⟨h w w' hi.1 hb, own_call hi.2 hb⟩

section
variable {P : Program} {ops : Array Oper} {a : Act} {w w0 : World} {B : Nat} {L : List (Nat × Array Value × TypeId)}
/-- A slice put together, whatever its block. -/
theorem mxOp_buildSlice (st : St B w0 L w) {i : Nat} {o : Oper} {K : Act → World → Prop} (hoi : ops[i]? = some o) (hw : Region.wanted o (yielded ops a.tmps) = true) (t : TypeId) (len : Nat) (parts : Array (Nat × Operand)) (ho : o.op = .buildSlice t len parts) (e : TypeId) (ht : P.underlying t = some (.slice e)) (z : Value) (size : Nat)
    (hz : (P.info? e).bind (·.zero) = some z) (hsize : (P.info? e).map (·.size) = some size) (hlim : len * size ≤ 16777216) (hpos : 0 < len * size) (ps : List (Nat × Value)) (hp : (parts.map fun (i, x) => (i, a.eval x)).toList = ps) (cs : Array Value)
    (hf : Instr.fill (fun i => some (i * size, size)) ((Array.range (len * size)).map (z.cells[· % z.cells.size]!)) ps = some cs)
    (h : ∀ b w1, St B w0 ((b, cs, e) :: L) w1 → Below w.heap.size w w1 → K (a.put o.dst (.slice (some ⟨b, 0, none⟩) len len)) w1) : Mix.mxOp P ops i K a w := by
  refine Mix.mxOp_go hoi hw ?_
  cases hq : P.info? e with
  | none => simp [hq] at hz
  | some i =>
    have hi : i.zero = some z := by simpa [hq] using hz
    have hs : i.size = size := by simpa [hq] using hsize
    subst hs
    subst hp
    have hrun : (Instr.buildSlice t len (parts.map fun (i, x) => (i, a.eval x))).run P w = .ok (.slice (some ⟨w.heap.size, 0, none⟩) len len) (w.alloc (.cells cs e)) := by
      have n1 : ¬ len * i.size > 2 ^ 24 := by omega
      have n2 : ¬ len * i.size = 0 := by omega
      simp only [Instr.buildSlice, Sem.run_bind, run_underlying ht, Result.andThen_ok, sizeOf, typeInfo, run_program, hq, Sem.run_pure, n1, n2, if_false, zeroValue, hi, hf, newRow, run_newObj]
      rfl
    unfold Oper.wp execOp
    simp only [ho, Sem.run_bind, hrun, Result.andThen_ok, Sem.run_pure, Oper.upon]
    exact h _ _ (st.new cs e) ((Below.refl _ _).alloc (Nat.le_refl _) _)
end

theorem fillXY (x y : Int) : Instr.fill (fun i => some (i * 1, 1)) ((Array.range (2 * 1)).map ((Value.int .i64 0).cells[· % (Value.int .i64 0).cells.size]!)) [(0, .int .i64 x), (1, .int .i64 y)] = some (iv [x, y]) := by kernel_rfl

/-- The list that the law puts together. -/
def ordK (l : List Int) (k : Nat) : List Int := (List.range k).flatMap fun i => [l.getD (l.length - 1 - i) 0, l.getD i 0]
theorem ordK_succ (l : List Int) (k : Nat) : ordK l (k + 1) = ordK l k ++ [l.getD (l.length - 1 - k) 0, l.getD k 0] := by
  unfold ordK
  rw [List.range_succ, List.flatMap_append]
  simp
theorem ordK_len (l : List Int) : ∀ k, (ordK l k).length = 2 * k
  | 0 => rfl
  | k + 1 => by rw [ordK_succ, List.length_append, ordK_len l k]; simp; omega
theorem getD_mem {l : List Int} {i : Nat} (h : i < l.length) : l.getD i 0 ∈ l := by
  rw [show l.getD i 0 = l[i] by simp [List.getD_eq_getElem?_getD, h]]
  exact List.getElem_mem h
theorem ordK_mem (l : List Int) (x : Int) : x ∈ ordK l l.length ↔ x ∈ l := by
  unfold ordK
  simp only [List.mem_flatMap, List.mem_range, List.mem_cons, List.not_mem_nil, or_false]
  constructor
  · rintro ⟨i, hi, rfl | rfl⟩
    · exact getD_mem (by omega)
    · exact getD_mem hi
  · intro h
    obtain ⟨i, hi, rfl⟩ := List.getElem_of_mem h
    exact ⟨i, hi, .inr (by simp [List.getD_eq_getElem?_getD, hi])⟩
theorem ofL_mem {l m : List Int} (h : ∀ x, x ∈ l ↔ x ∈ m) : ofL zero32 l = ofL zero32 m :=
  key_ext (Key.ofL _ key_zero) (Key.ofL _ key_zero) fun j hj => by
    rw [ofL_bit j hj _ _ key_zero, ofL_bit j hj _ _ key_zero]
    simp only [h]
theorem setI_ofL (l : List Int) : setI (ofL zero32 l) = refL l := by
  unfold setI setB refL refK
  congr 1
  refine List.filter_congr fun j hj => ?_
  rw [ofL_bit j (by simpa using hj) _ _ key_zero, zero_bit]
  by_cases h : (j : Int) ∈ l
  · simp [h]
  · simp [h]

set_option maxHeartbeats 4000000 in
theorem BitmapOrder_rd (l : List Int) (v : Value) (w : World) (hv : Rd w v l) :
    Calls Try.prog 14 #[v] w fun e w' => e = .returned (.bool true) ∧ Below w.heap.size w w' := by
  have hm := hv.1
  unfold maxLen at hm
  obtain ⟨a, cap, rfl, Hc⟩ := hv.open
  have Hv := Lib.hid hv
  clear hv
  have HA := alive14H
  have st := St.init w
  by_cases h300 : (300 : Int) < (l.length : Int)
  · go_enter Try.func14, Try.ntmps14
    go_wp2_with (first | (go_at_call 27; refine (HA.out _).mono ?_; rintro e wn ⟨rfl, hbel⟩; have stn := St.call (by assumption) hbel; clear hbel))
    go_ret
    exact ⟨rfl, stn.below⟩
  go_enter Try.func14, Try.ntmps14
  go_wp2
  go_loopw [3, 11] (fun out i wr => ∃ k : Int, 0 ≤ k ∧ k ≤ (l.length : Int) ∧ i = .int .i64 k ∧ St w.heap.size w [] wr ∧ wr.ownsRow w.heap.size 3 1 out (ordK l k.toNat).length (icells (ordK l k.toNat))) (fun _ i _ => ((l.length : Int) - intOf i).toNat)
  case atStart => exact ⟨0, by omega, by omega, rfl, st, World.ownsRow_nil _ _ _ _⟩
  case round =>
    obtain ⟨k, k0, k1, rfl, st3, hown⟩ := hrel
    clear st
    have Hown := Lib.hid hown
    clear hown
    by_cases hlt : k < (l.length : Int)
    · obtain ⟨bl, off, rfl, hcell⟩ := Hc.out (by omega)
      have Hcell : Hid (∀ wx : World, Below w.heap.size w wx → wx.cell? ⟨bl, off + ((l.length : Int) - 1 - k).toNat, none⟩ = some (.int .i64 (l.getD ((l.length : Int) - 1 - k).toNat 0)) ∧ wx.cell? ⟨bl, off + k.toNat, none⟩ = some (.int .i64 (l.getD k.toNat 0))) := fun wx hb =>
        ⟨hcell wx hb _ (by omega) (by omega), hcell wx hb k k0 hlt⟩
      have hnext := ordK_succ l k.toNat
      rw [show k.toNat + 1 = (k + 1).toNat by omega, show l.length - 1 - k.toNat = ((l.length : Int) - 1 - k).toNat by omega] at hnext
      have Hnext := Lib.hid hnext
      have Hsl : Hid ((ordK l k.toNat).length ≤ 600) := by unfold Hid; rw [ordK_len]; omega
      clear hnext hcell
      generalize l.getD ((l.length : Int) - 1 - k).toNat 0 = X at *
      generalize l.getD k.toNat 0 = Y at *
      go_wp2
      refine Mix.wp_region_mix 14 (fun wx => St w.heap.size w [] wx ∧ wx.ownsRow w.heap.size 3 1 u3 (ordK l k.toNat).length (icells (ordK l k.toNat))) mixed (by kernel_rfl) ⟨st3.drew, own_call Hown.out (Below.refl _ _).drew⟩ ?_
      intro F inv
      have up0 := Up.own (St.up (B := w.heap.size) (w0 := w) (L := [])) w.heap.size 3 1 u3 (ordK l k.toNat).length (icells (ordK l k.toNat))
      refine Mix.good_batch (f := 1) F up0 [0, 1, 2, 3, 4, 5, 6, 7, 8, 9, 10, 11, 12] _ _ inv (by kernel_rfl) ?_
      clear inv
      iterate 13
        (refine Mix.wpUp_cons rfl (fun K hK => ?_); go_simp; apply up_run; · (intro wx hw; have q1 := (fun (x : World) (h : St w.heap.size w [] x ∧ _) => Hcell.out x h.1.below) wx hw; go_simp; (try go_ints); (try go_simp); (try (rw [if_pos (by omega)])); (try go_simp); (first | done | rfl))
         refine hK _ ?_; clear hK K)
      refine Mix.wpUp_nil ?_
      intro inv
      refine Mix.good_one (i := 13) (by kernel_rfl) inv (fun w5 h5 => ?_)
      clear inv
      refine mxOp_buildSlice h5.1 rfl rfl 30 2 _ rfl 3 sliceInt _ 1 zeroInt sizeInt (by decide) (by decide) [(0, .int .i64 X), (1, .int .i64 Y)] (by simp [Act.eval]) _ (fillXY X Y) ?_
      intro b5 w6 st6 hb6
      refine ⟨_, Up.own (St.up (B := w.heap.size) (w0 := w) (L := [(b5, iv [X, Y], 3)])) w.heap.size 3 1 u3 (ordK l k.toNat).length (icells (ordK l k.toNat)), ⟨st6, own_call h5.2 hb6⟩, fun _ h => ⟨h.1.drop, h.2⟩, fun inv => ?_⟩
      clear h5 st6 hb6 inv F up0 st3 Hown
      refine ⟨by kernel_rfl, fun w7 h7 => ?_⟩
      obtain ⟨st7, hown7⟩ := h7
      have Hown7 := Lib.hid hown7
      clear hown7
      simp only [List.drop_succ_cons, List.drop_zero]
      go_simp
      refine wpList_appendOwn (base := w.heap.size) st7.drop (fun p hp => by simp at hp) (Nat.le_refl _) rfl _ _ 30 rfl 3 _ 1 8 sliceInt zeroInt sizeInt bytesInt rfl (by decide) _ _ _ rfl Hown7.out b5 2 2 (iv [X, Y]) 3 rfl rfl (st7.at (i := 0) rfl) (iv_one _) ?_ ?_ st7.size ?_
      · have := Hsl.out; unfold maxLen; omega
      · have := Hsl.out; omega
      intro v' w8 st8 hown8 _ _
      clear Hown7 st7
      have e1 : (ordK l k.toNat).length + 2 = (ordK l (k + 1).toNat).length := by rw [Hnext.out, List.length_append]; rfl
      have e2 : icells (ordK l k.toNat) ++ (iv [X, Y]).toList = icells (ordK l (k + 1).toNat) := by rw [Hnext.out, icells_app]; rfl
      rw [e1, e2] at hown8
      have Hown8 := Lib.hid hown8
      clear hown8 e1 e2
      go_wp2
      go_roundw
      case rel => exact ⟨k + 1, by omega, by omega, rfl, st8, Hown8.out⟩
      case measure => simp [intOf]; omega
    · have e : k.toNat = l.length := by omega
      have h1 := Hown.out
      rw [e] at h1
      have hrd : Rd wr u3 (ordK l l.length) := Rd.of_own rfl h1 (by rw [ordK_len]; unfold maxLen; omega)
      have hvl : Rd wr (.slice a l.length cap) l := Hv.out.call st3.below
      have K1 : Hid (∀ wx : World, St wr.heap.size wr [] wx → Calls Try.prog 28 #[u3] wx fun e w' => e = .returned (.agg (kv (ofL zero32 l))) ∧ Below wx.heap.size wx w') := fun wx sx => by
        have h := Of_calls _ _ wx (hrd.call sx.below)
        rw [ofL_mem (ordK_mem l)] at h
        exact h
      have K2 : Hid (∀ wx : World, St wr.heap.size wr [] wx → Calls Try.prog 28 #[.slice a l.length cap] wx fun e w' => e = .returned (.agg (kv (ofL zero32 l))) ∧ Below wx.heap.size wx w') := fun wx sx => Of_calls l _ wx (hvl.call sx.below)
      have K3 : Hid (∀ wx : World, Calls Try.prog 35 #[.agg (kv (ofL zero32 l))] wx fun e w' => IsList wx w' (refL l) e) := fun wx => by
        have h := List_calls (ofL zero32 l) (Key.ofL l key_zero) wx
        rw [setI_ofL] at h
        exact h
      have K4 : Hid (∀ wx : World, St wr.heap.size wr [] wx → Calls Try.prog 37 #[.slice a l.length cap] wx fun e w' => IsList wx w' (refL l) e) := fun wx sx => RefList_calls l _ wx (hvl.call sx.below)
      have K5 : Hid (∀ (v v' : Value) (wx : World), Rd wx v (refL l) → Rd wx v' (refL l) → Calls Try.prog 34 #[v, v'] wx fun e w' => e = .returned (.bool true) ∧ Below wx.heap.size wx w') := fun v v' wx h1 h2 => by
        have h := Same_calls (refL l) (refL l) v v' wx h1 h2
        simpa using h
      have hk : (ofL zero32 l).length = 32 := (Key.ofL l key_zero).len
      have hq : ∀ w, (Op.equalIn 10000 34 (.agg (kv (ofL zero32 l))) (.agg (kv (ofL zero32 l)))).run Try.prog w = .ok true w := fun w => by rw [eqlBm _ _ hk hk w]; simp
      have hg := guardBm
      have Hst : Hid (St w.heap.size w [] wr) := st3
      have s0 := St.init wr
      clear h1 Hown e hrd hvl hk st3 Hc Hv
      generalize ofL zero32 l = O at *
      generalize refL l = R at *
      go_wp2_with (first | (go_at_call 27; refine (HA.out _).mono ?_; rintro e wn ⟨rfl, hbel⟩; have s1 := s0.call hbel; clear hbel s0) | (go_at_call 28; with_reducible refine (K1.out _ (by assumption)).mono ?_; rintro e wn ⟨rfl, hbel⟩; have sn := St.call (by assumption) hbel; clear hbel) | (go_at_call 28; with_reducible refine (K2.out _ (by assumption)).mono ?_; rintro e wn ⟨rfl, hbel⟩; have sn := St.call (by assumption) hbel; clear hbel) | (go_at_call 35; refine (K3.out _).mono ?_; rintro e wn ⟨vl, rfl, hrd, hbel, _⟩; have sn := St.call (by assumption) hbel; have Hrd := Lib.hid hrd; clear hbel hrd) | (go_at_call 37; refine (K4.out _ (by assumption)).mono ?_; rintro e wn ⟨vr, rfl, hrd', hbel, _⟩; have sn := St.call (by assumption) hbel; have Hrd2 := Lib.hid (Hrd.out.call hbel); have Hrd' := Lib.hid hrd'; clear hbel hrd' Hrd) | (go_at_call 34; refine (K5.out _ _ _ Hrd2.out Hrd'.out).mono ?_; rintro e wn ⟨rfl, hbel⟩; have s9 := St.call (by assumption) hbel; clear hbel Hrd2 Hrd'))
      go_ret
      exact ⟨rfl, (Hst.out.call s9.below).below⟩

theorem BitmapOrder_walk (w : World) (a : Option Addr) (len cap : Nat) (zs : List Int) (h : IsRow w a len cap zs) :
    Calls Try.prog 14 #[.slice a len cap] w fun e w' => e = .returned (.bool true) ∧ Below w.heap.size w w' := BitmapOrder_rd _ _ w (Rd.of_row h)

end Go.Proofs.Ytdkkklhpfflpkaa
