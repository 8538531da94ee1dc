/- The contract of List of package bitmap: the set bits in ascending order, in new memory. -/
import Derived.Test.YtdkkklhpfflpkaaSame
open Go Go.RowKit
namespace Go.Proofs.Ytdkkklhpfflpkaa

/-- The depths below k that are set. -/
def setK (b : List Nat) (k : Nat) : List Int := ((List.range k).filter fun i => bitN b i == 1).map fun (n : Nat) => (n : Int)
theorem setK_all (b : List Nat) : setK b 256 = setI b := rfl
theorem setK_len (b : List Nat) (k : Nat) : (setK b k).length ≤ k := by
  unfold setK
  rw [List.length_map]
  have := List.length_filter_le (fun i => bitN b i == 1) (List.range k)
  simpa using this
theorem setK_yes (b : List Nat) (k : Nat) (h : bitN b k = 1) : setK b (k + 1) = setK b k ++ [(k : Int)] := by
  unfold setK
  rw [List.range_succ, List.filter_append, List.map_append]
  simp [h]
theorem setK_no (b : List Nat) (k : Nat) (h : ¬ bitN b k = 1) : setK b (k + 1) = setK b k := by
  unfold setK
  rw [List.range_succ, List.filter_append, List.map_append]
  simp [h]

/-- Cells of ints. -/
def icells (l : List Int) : List Value := l.map fun x => Value.int .i64 x
theorem icells_len (l : List Int) : (icells l).length = l.length := by simp [icells]
theorem icells_app (l m : List Int) : icells (l ++ m) = icells l ++ icells m := by simp [icells]
theorem iv_toList (l : List Int) : (iv l).toList = icells l := rfl
theorem iv_one (l : List Int) : ∀ u ∈ (iv l).toList, u.oneCell' = true := by
  intro u hu
  rw [iv_toList] at hu
  obtain ⟨n, _, rfl⟩ := List.mem_map.1 hu
  rfl

/-- The call handed back a slice of these numbers. -/
def IsList (w w' : World) (l : List Int) (e : Ending) : Prop := ∃ v, e = .returned v ∧ Rd w' v l ∧ Below w.heap.size w w' ∧ ∀ k, v.ownBlock = some k → w.heap.size ≤ k

theorem fill1 (x : Int) : Instr.fill (fun i => some (i * 1, 1)) ((Array.range (1 * 1)).map ((Value.int .i64 0).cells[· % (Value.int .i64 0).cells.size]!)) [(0, .int .i64 x)] = some (iv [x]) := by kernel_rfl

set_option maxHeartbeats 1000000 in
theorem List_calls (b : List Nat) (hk : Key b) (w : World) :
    Calls Try.prog 35 #[.agg (kv b)] w fun e w' => IsList w w' (setI b) e := by
  have HK := Lib.hid hk
  have hlen : Hid (b.length = 32) := hk.len
  clear hk
  have st := St.init w
  go_enter Try.func35, Try.ntmps35
  go_wp2_with (first | (refine wpList_boxA (by assumption) rfl 34 _ rfl _ rfl ?_; intro b1 w1 st1; clear st))
  go_loopw [3, 5] (fun out i wr => ∃ k : Int, 0 ≤ k ∧ k ≤ 256 ∧ i = .int .i64 k ∧ St w.heap.size w [(b1, kv b, 34)] wr ∧ wr.ownsRow (b1 + 1) 3 1 out (setK b k.toNat).length (icells (setK b k.toNat))) (fun _ i _ => (256 - intOf i).toNat)
  case atStart => exact ⟨0, by omega, by omega, rfl, st1, World.ownsRow_nil _ _ _ _⟩
  case round =>
    obtain ⟨k, k0, k1, rfl, st3, hown⟩ := hrel
    clear st1
    have Hown := Lib.hid hown
    clear hown
    have hbase : b1 + 1 ≤ wr.heap.size := heap_lt (st3.at (i := 0) rfl)
    have Hbase := Lib.hid hbase
    clear hbase
    have hab := st3.above (i := 0) rfl
    have Hab := Lib.hid hab
    clear hab
    by_cases hlt : k < 256
    · have hsl := setK_len b k.toNat
      have Hsl := Lib.hid hsl
      clear hsl
      by_cases hb : bitN b k.toNat = 1
      · have HH := Lib.hid (HasT b HK.out k true (by rw [bitI_lt ⟨k0, hlt⟩, hb]; rfl))
        have hnext := setK_yes b k.toNat hb
        rw [show ((k.toNat : Nat) : Int) = k by omega, show k.toNat + 1 = (k + 1).toNat by omega] at hnext
        have Hnext := Lib.hid hnext
        clear hnext hb
        go_wp2_with (first | (refine wpList_loadR rfl 34 _ rfl b1 rfl _ aggBm rfl _ _ (St.at (by assumption) (i := 0) rfl) (sizeBm hlen.out) ?_) | (go_at_call 30; refine (HH.out _).mono ?_; rintro e w4 ⟨rfl, hbel⟩; have st4 := st3.call hbel; have hown4 := Lib.hid (own_call Hown.out hbel); have hb4 := Lib.hid (Nat.le_trans Hbase.out hbel.size); clear st3 Hown Hbase hbel) | (refine wpList_buildSlice st4 rfl 30 1 _ rfl 3 sliceInt _ 1 zeroInt sizeInt (by decide) (by decide) [(0, .int .i64 k)] ?_ _ (fill1 k) ?_; · (simp [Act.eval]; done)))
        intro b5 w5 st5 hb5
        have hown5 := Lib.hid (own_call hown4.out hb5)
        have hbase5 := Lib.hid (Nat.le_trans hb4.out hb5.size)
        refine wpList_appendOwn (base := b1 + 1) st5.drop (fun p hp => by simp at hp; subst hp; exact Nat.lt_succ_self _) (by have := Hab.out; omega) rfl _ _ 30 rfl 3 _ 1 8 sliceInt zeroInt sizeInt bytesInt rfl (by decide) _ _ _ rfl hown5.out b5 1 1 (iv [k]) 3 rfl rfl (st5.at (i := 0) rfl) (iv_one _) ?_ ?_ hbase5.out ?_
        · have := Hsl.out; unfold maxLen; omega
        · have := Hsl.out; omega
        intro v' w6 st6 hown6 _ _
        clear hown4 hown5 hb4 hbase5 st4 st5 hb5
        have e1 : (setK b k.toNat).length + 1 = (setK b (k + 1).toNat).length := by rw [Hnext.out, List.length_append]; rfl
        have e2 : icells (setK b k.toNat) ++ (iv [k]).toList = icells (setK b (k + 1).toNat) := by rw [Hnext.out, icells_app]; rfl
        rw [e1, e2] at hown6
        have Hown6 := Lib.hid hown6
        clear hown6 e1 e2
        go_wp2
        go_roundw
        case rel => exact ⟨k + 1, by omega, by omega, rfl, st6, Hown6.out⟩
        case measure => simp [intOf]; omega
      · have HH := Lib.hid (HasT b HK.out k false (by rw [bitI_lt ⟨k0, hlt⟩]; have := bitN_lt b k.toNat; rw [beq_eq_false_iff_ne]; omega))
        have hnext := setK_no b k.toNat hb
        rw [show k.toNat + 1 = (k + 1).toNat by omega] at hnext
        have Hnext := Lib.hid hnext
        clear hnext hb
        go_wp2_with (first | (refine wpList_loadR rfl 34 _ rfl b1 rfl _ aggBm rfl _ _ (St.at (by assumption) (i := 0) rfl) (sizeBm hlen.out) ?_) | (go_at_call 30; refine (HH.out _).mono ?_; rintro e w4 ⟨rfl, hbel⟩; have st4 := st3.call hbel; have hown4 := Lib.hid (own_call Hown.out hbel); clear st3 Hown Hbase hbel))
        go_roundw
        case rel => exact ⟨k + 1, by omega, by omega, rfl, st4, by rw [Hnext.out]; exact hown4.out⟩
        case measure => simp [intOf]; omega
    · have e : k.toNat = 256 := by omega
      have h1 := Hown.out
      rw [e, setK_all] at h1
      have H1 := Lib.hid h1
      have hsl : Hid ((setI b).length ≤ 256) := setK_len b 256
      clear h1 Hown e
      go_wp2
      go_ret
      exact ⟨u3, rfl, Rd.of_own rfl H1.out (by have := hsl.out; unfold maxLen; omega), st3.below, fun k hk => Nat.le_trans Hab.out (Nat.le_of_succ_le (H1.out.lt k hk).1)⟩

end Go.Proofs.Ytdkkklhpfflpkaa
