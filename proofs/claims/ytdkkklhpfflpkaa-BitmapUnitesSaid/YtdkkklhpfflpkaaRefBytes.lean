/- The contract of the reference's Bytes: the bytes of the set of a list. -/
import Derived.Test.YtdkkklhpfflpkaaRefList
open Go Go.RowKit
namespace Go.Proofs.Ytdkkklhpfflpkaa

theorem refL_nodup (l : List Int) : (refL l).Nodup := by
  unfold refL refK
  exact List.Pairwise.map (fun (n : Nat) => (n : Int)) (fun a b h hab => h (by omega)) (List.nodup_range.filter _)

theorem refL_mem (l : List Int) (x : Int) : x ∈ refL l ↔ x ∈ l ∧ 0 ≤ x ∧ x < 256 := by
  unfold refL refK
  simp only [List.mem_map, List.mem_filter, List.mem_range, decide_eq_true_eq]
  constructor
  · rintro ⟨n, ⟨h1, h2⟩, rfl⟩
    exact ⟨h2, by omega, by omega⟩
  · rintro ⟨h1, h2, h3⟩
    refine ⟨x.toNat, ⟨by omega, ?_⟩, by omega⟩
    rw [Int.toNat_of_nonneg h2]
    exact h1

/-- After some numbers: the bits are just these. -/
structure BitsOf (A : List Int) (c : List Nat) : Prop where
  key : Key c
  bit : ∀ i < 256, bitN c i = if (i : Int) ∈ A then 1 else 0

theorem bitsOf_start : BitsOf [] zero32 := ⟨key_zero, fun i _ => by rw [zero_bit]; simp⟩

theorem bitsOf_step {A : List Int} {c : List Nat} (h : BitsOf A c) (x : Int) (x0 : 0 ≤ x) (x1 : x < 256) (hx : x ∉ A) : bitN c x.toNat = 0 ∧ BitsOf (A ++ [x]) (flipN c x.toNat) := by
  have hb : bitN c x.toNat = 0 := by
    rw [h.bit _ (by omega), Int.toNat_of_nonneg x0, if_neg hx]
  refine ⟨hb, h.key.flip _, fun i hi => ?_⟩
  rw [bitN_flip h.key _ _ (by omega)]
  by_cases hix : i = x.toNat
  · rw [if_pos hix, hb, if_pos (by simp; right; omega)]
  · rw [if_neg hix, h.bit i hi]
    have : ¬ (i : Int) = x := by omega
    by_cases hA : (i : Int) ∈ A
    · rw [if_pos hA, if_pos (by simp [hA])]
    · rw [if_neg hA, if_neg (by simp [hA, this])]

theorem bitsOf_ofL {l : List Int} {c : List Nat} (h : BitsOf (refL l) c) : c = ofL zero32 l :=
  key_ext h.key (Key.ofL l key_zero) fun i hi => by
    rw [h.bit i hi, ofL_bit i hi l zero32 key_zero, zero_bit]
    by_cases hm : (i : Int) ∈ l
    · rw [if_pos hm, if_pos ((refL_mem l i).2 ⟨hm, by omega, by omega⟩)]
    · rw [if_neg hm, if_neg fun h => hm ((refL_mem l i).1 h).1]

theorem arrT : Try.prog.underlying 22 = some (.array 32 5) := by kernel_rfl
theorem zeroArr : (Try.prog.info? 22).bind (·.zero) = some (.agg (kv zero32)) := by kernel_rfl
theorem sizeArr0 : (Try.prog.info? 22).map (·.size) = some 32 := by kernel_rfl
theorem sizeArr {l : List Nat} (h : l.length = 32) : (Try.prog.info? 22).map (·.size) = some (kv l).size := by rw [kv_size, h]; exact sizeArr0

theorem refL_at (l : List Int) (j : Nat) (hj : j < (refL l).length) : 0 ≤ (refL l).getD j 0 ∧ (refL l).getD j 0 < 256 ∧ (refL l).getD j 0 ∉ (refL l).take j ∧ (refL l).take (j + 1) = (refL l).take j ++ [(refL l).getD j 0] := by
  have hg : (refL l).getD j 0 = (refL l)[j] := by simp [List.getD_eq_getElem?_getD, hj]
  have hm := (refL_mem l _).1 (List.getElem_mem hj)
  have ht := List.take_succ_eq_append_getElem hj
  rw [hg]
  refine ⟨hm.2.1, hm.2.2, fun hin => ?_, ht⟩
  have hn : ((refL l).take (j + 1)).Nodup := (refL_nodup l).sublist (List.take_sublist _ _)
  rw [ht, List.nodup_append] at hn
  exact hn.2.2 _ hin _ (by simp) rfl

set_option maxHeartbeats 2000000 in
theorem RefBytes_calls (l : List Int) (v : Value) (w : World) (hv : Rd w v l) :
    Calls Try.prog 29 #[v] w fun e w' => e = .returned (.agg (kv (ofL zero32 l))) ∧ Below w.heap.size w w' := by
  have HL : Hid (∀ wx : World, Below w.heap.size w wx → Calls Try.prog 37 #[v] wx fun e w' => IsList wx w' (refL l) e) := fun wx hb => RefList_calls l v wx (hv.call hb)
  have hlz : Hid (zero32.length = 32) := key_zero.len
  clear hv
  have st := St.init w
  go_enter Try.func29, Try.ntmps29
  go_wp2_with (first | (refine wpList_newA st rfl 22 rfl _ zeroArr ?_; intro b1 w1 st1; clear st) | (refine wpList_newA st1 rfl 22 rfl _ zeroArr ?_; intro b2 w2 st2; clear st1) | (go_at_call 37; refine (HL.out _ st2.below).mono ?_; rintro e w3 ⟨va, rfl, hrd, hbel, hfresh⟩; have st3 := st2.call hbel; have hb2 := heap_lt (st2.at (i := 0) rfl); clear st2 hbel))
  have hm := hrd.1
  unfold maxLen at hm
  have Hfresh : Hid (∀ k, va.ownBlock = some k → k ≠ b2) := fun k hk => by have := hfresh k hk; omega
  have Hrd := Lib.hid hrd
  obtain ⟨a, cap, rfl, _⟩ := hrd.open
  clear hrd hfresh hb2
  go_loopw [5] (fun j wr => ∃ (k : Int) (c : List Nat), 0 ≤ k ∧ k ≤ ((refL l).length : Int) ∧ j = .int .i64 k ∧ Hid (BitsOf ((refL l).take k.toNat) c) ∧ Hid (Rd wr (.slice a (refL l).length cap) (refL l)) ∧ St w.heap.size w [(b2, kv c, 22), (b1, kv zero32, 22)] wr) (fun j _ => (((refL l).length : Int) - intOf j).toNat)
  case atStart => exact ⟨0, zero32, by omega, by omega, rfl, bitsOf_start, Hrd.out, st3⟩
  case round =>
    obtain ⟨k, c, k0, k1, rfl, hbits, hrdk, st4⟩ := hrel
    by_cases hlt : k < ((refL l).length : Int)
    · obtain ⟨x0, x1, xn, xt⟩ := refL_at l k.toNat (by omega)
      obtain ⟨hb0, hstep⟩ := bitsOf_step hbits.out _ x0 x1 xn
      rw [← xt, show k.toNat + 1 = (k + 1).toNat by omega] at hstep
      have Hstep := Lib.hid hstep
      have hfl : Hid ((flipN c ((refL l).getD k.toNat 0).toNat).length = 32) := hstep.key.len
      have hcl : Hid (c.length = 32) := hbits.out.key.len
      obtain ⟨a', cap', hva, Hc⟩ := hrdk.out.open
      injection hva with hva _ hcap
      subst hva
      subst hcap
      obtain ⟨bl, off, rfl, hcell⟩ := Hc.out (by omega)
      have hcm := hcell wr (Below.refl _ _) k k0 hlt
      have hxy := xor_yes c hbits.out.key ((refL l).getD k.toNat 0).toNat hb0
      have hcg := hbits.out.key.get (((refL l).getD k.toNat 0).toNat / 8)
      have hcc := kv_get c (((refL l).getD k.toNat 0).toNat / 8) (by rw [hcl.out]; omega)
      have hd : ((refL l).getD k.toNat 0 / 8).toNat = ((refL l).getD k.toNat 0).toNat / 8 := by omega
      have Hset : Hid ((kv c).setIfInBounds ((refL l).getD k.toNat 0 / 8).toNat (.int .u8 (((c.getD (((refL l).getD k.toNat 0).toNat / 8) 0 : Nat) : Int) + (valN ((refL l).getD k.toNat 0).toNat : Nat))) = kv (flipN c ((refL l).getD k.toNat 0).toNat)) := by
        unfold Hid flipN
        rw [hd, hxy.1, ← kv_set, Int.natCast_add]
      have hv := valN_le ((refL l).getD k.toNat 0).toNat
      have hsum : ((c.getD (((refL l).getD k.toNat 0).toNat / 8) 0 : Nat) : Int) + (valN ((refL l).getD k.toNat 0).toNat : Nat) < 256 := by omega
      have hc0 : (0 : Int) ≤ (c.getD (((refL l).getD k.toNat 0).toNat / 8) 0 : Nat) := by omega
      have He : Hid (ValLeft 1 ((refL l).getD k.toNat 0 % 8) (valN ((refL l).getD k.toNat 0).toNat)) := by
        unfold Hid ValLeft valN
        rw [show (7 - (refL l).getD k.toNat 0 % 8).toNat = 7 - ((refL l).getD k.toNat 0).toNat % 8 by omega]
        simp
      have hcell2 : wr.cell? ⟨b2, ((refL l).getD k.toNat 0 / 8).toNat, none⟩ = some (.int .u8 (c.getD (((refL l).getD k.toNat 0).toNat / 8) 0 : Nat)) := by
        rw [st4.cell (i := 0) rfl, hd]; exact hcc
      have hi8 : Hid (((refL l).getD k.toNat 0 / 8).toNat < 32) := by unfold Hid; omega
      clear xn xt hb0 hstep hxy hcg hcc hd hcell hbits Hc
      generalize ((c.getD (((refL l).getD k.toNat 0).toNat / 8) 0 : Nat) : Int) = C at *
      generalize valN ((refL l).getD k.toNat 0).toNat = V at *
      generalize hF : flipN c ((refL l).getD k.toNat 0).toNat = F at *
      clear hF
      generalize (refL l).getD k.toNat 0 = X at *
      go_wp2
      go_loop [6, 7] (fun v j => ∃ U J : Int, 0 ≤ U ∧ U ≤ 128 ∧ 0 ≤ J ∧ J ≤ 7 ∧ Hid (ValLeft U J V) ∧ v = .int .i64 U ∧ j = .int .i64 J) (fun _ j => (7 - intOf j).toNat)
      case atStart => exact ⟨1, X % 8, by omega, by omega, by omega, by omega, He, rfl, rfl⟩
      case round =>
        obtain ⟨U, J, q0, q1, q2, q3, q4, rfl, rfl⟩ := hrel
        clear He
        by_cases hJ : J < 7
        · have hle := valLeft_le q0 hJ hv q4
          go_wp2
          go_round
          case rel => exact ⟨U * 2, J + 1, by omega, by omega, by omega, by omega, valLeft_step q0 hJ q4, rfl, rfl⟩
          case measure => simp [intOf]; omega
        · have hU := valLeft_end q0 (by omega) q4
          rw [← hU] at hsum Hset
          clear hU q4
          go_wp2_with (refine wpList_storeK st4 rfl 5 _ _ rfl 0 b2 (X / 8).toNat rfl _ rfl _ _ rfl sizeByte rfl (by rw [kv_size, hcl.out]; exact hi8.out) rfl _ Hset.out _ rfl ?_; intro w6 st6 hk6)
          simp only [List.set_cons_zero] at st6
          have hrd6 := Lib.hid (hrdk.out.kept hk6 Hfresh.out)
          clear hk6 Hrd hrdk hcm hcell2
          try simp only [Act.put]
          go_roundw
          case rel => first | exact ⟨k + 1, F, by omega, by omega, rfl, Hstep.out, hrd6.out, st6⟩ | exact ⟨k + 1, by omega, by omega, F, Hstep.out, hrd6.out, st6⟩ | exact ⟨k + 1, by omega, F, by omega, Hstep.out, hrd6.out, st6⟩
          case measure => simp [intOf]; omega
    · have e : Hid (c = ofL zero32 l) := by
        have h := hbits.out
        rw [List.take_of_length_le (by omega)] at h
        exact bitsOf_ofL h
      rw [e.out] at st4
      have hl1 : Hid ((ofL zero32 l).length = 32) := (Key.ofL l key_zero).len
      clear hbits e st3 hrdk Hrd
      go_wp2_with (first | (refine wpList_loadR rfl 22 _ rfl b2 rfl _ arrT rfl _ _ (st4.at (i := 0) rfl) (sizeArr hl1.out) ?_) | (refine wpList_storeR st4 rfl 22 _ _ rfl 1 b1 rfl _ rfl _ _ rfl (sizeArr hl1.out) (by show (kv (ofL zero32 l)).size = _; rw [kv_size, hl1.out, kv_size, hlz.out]) (kv_one _) _ rfl ?_; intro w6 st6))
      exact ret_row rfl b1 _ _ _ rfl (st6.at (i := 1) rfl) arrT rfl (sizeArr hl1.out) rfl ⟨rfl, st6.below⟩

end Go.Proofs.Ytdkkklhpfflpkaa
