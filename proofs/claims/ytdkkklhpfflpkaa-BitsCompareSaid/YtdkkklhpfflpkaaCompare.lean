/- Contracts of Compare of package bits, of bytes.Compare, and of the reference's Compare. -/
import Derived.Test.YtdkkklhpfflpkaaCommon
import Derived.Lib.Bytealg
open Go Go.RowKit
namespace Go.Proofs.Ytdkkklhpfflpkaa

def toBytes (l : List Nat) : ByteArray := ⟨(l.map fun n => n.toUInt8).toArray⟩

/-- Cells from an address on hold these bytes. -/
def BytesAt (w : World) (b off : Nat) (l : List Nat) : Prop := ∀ j, j < l.length → w.cell? ⟨b, off + j, none⟩ = some (.int .u8 (l.getD j 0 : Nat))

theorem bytesAt_row {w : World} {b : Nat} {l : List Nat} {t : TypeId} {fr : Nat × Nat} (h : w.heap[b]? = some (.cells (kv l) t fr)) : BytesAt w b 0 l := by
  intro j hj
  rw [Nat.zero_add]
  simp only [World.cell?, h, Option.isSome_none, Bool.false_eq_true, if_false]
  exact kv_get l j hj

theorem run_loadBytes {P : Program} (w : World) (b : Nat) : ∀ (l : List Nat) (off : Nat) (acc : ByteArray), BytesAt w b off l →
    (Extern.Bytes.loadBytes ⟨b, off, none⟩ l.length acc).run P w = .ok ⟨(acc.data.toList ++ l.map fun n => n.toUInt8).toArray⟩ w
  | [], off, acc, _ => by simp [Extern.Bytes.loadBytes]
  | x :: l, off, acc, h => by
    have h0 := h 0 (by simp)
    simp only [Nat.add_zero, List.getD_cons_zero] at h0
    have hadd : (⟨b, off, none⟩ : Addr).add 1 = ⟨b, off + 1, none⟩ := rfl
    have ih := run_loadBytes (P := P) w b l (off + 1) (acc.push ((x : Int).toNat.toUInt8)) (fun j hj => by
      have := h (j + 1) (by simpa using hj)
      rw [List.getD_cons_succ] at this
      rw [show off + 1 + j = off + (j + 1) by omega]
      exact this)
    simp only [List.length_cons, Extern.Bytes.loadBytes, Sem.run_bind, run_load, h0, Result.andThen_ok, hadd, ih]
    congr 2
    simp [ByteArray.push]

theorem compareBytes_eq : ∀ (a b : List Nat), a.length = b.length → (∀ x ∈ a, x < 256) → (∀ x ∈ b, x < 256) →
    Lib.compareBytes (a.map fun n => n.toUInt8) (b.map fun n => n.toUInt8) = cmpL a b
  | [], [], _, _, _ => rfl
  | [], _ :: _, h, _, _ => by simp at h
  | _ :: _, [], h, _, _ => by simp at h
  | x :: a, y :: b, h, ha, hb => by
    have hx := ha x (by simp)
    have hy := hb y (by simp)
    have ih := compareBytes_eq a b (by simpa using h) (fun z hz => ha z (by simp [hz])) (fun z hz => hb z (by simp [hz]))
    have lt : ∀ p q : Nat, p < 256 → q < 256 → (p.toUInt8 < q.toUInt8 ↔ p < q) := fun p q hp hq => by
      rw [UInt8.lt_iff_toNat_lt]
      simp only [Nat.toUInt8, UInt8.toNat_ofNat', Nat.reducePow]
      rw [Nat.mod_eq_of_lt hp, Nat.mod_eq_of_lt hq]
    simp only [List.map_cons, Lib.compareBytes, cmpL, lt x y hx hy, lt y x hy hx, ih]

theorem run_bytealg_Compare {P : Program} (w : World) (b1 b2 o1 o2 c1 c2 : Nat) (x y : List Nat) (hx : BytesAt w b1 o1 x) (hy : BytesAt w b2 o2 y) (hl : x.length = y.length) (lx : ∀ z ∈ x, z < 256) (ly : ∀ z ∈ y, z < 256) :
    (Extern.BytealgCompare.compare #[.slice (some ⟨b1, o1, none⟩) x.length c1, .slice (some ⟨b2, o2, none⟩) y.length c2]).run P w = .ok (.int .i64 (cmpL x y)) w := by
  change Sem.run P (do pure (goInt (Extern.BytealgCompare.cmp (← Extern.Bytes.bytesOf (.slice (some ⟨b1, o1, none⟩) x.length c1)) (← Extern.Bytes.bytesOf (.slice (some ⟨b2, o2, none⟩) y.length c2))))) w = _
  simp only [Extern.Bytes.bytesOf, Sem.run_bind, run_loadBytes w b1 x o1 _ hx, run_loadBytes w b2 y o2 _ hy, Result.andThen_ok, Sem.run_pure, Lib.cmp_eq]
  exact congrArg (fun c => Result.ok (Value.int .i64 c) w) (compareBytes_eq x y hl lx ly)

theorem bytesCompare_calls (w : World) (b1 b2 c1 c2 : Nat) (x y : List Nat) (hx : w.heap[b1]? = some (.cells (kv x) 23 (0, 0))) (hy : w.heap[b2]? = some (.cells (kv y) 23 (0, 0))) (kx : Key x) (ky : Key y) :
    Calls Try.prog 40 #[.slice (some ⟨b1, 0, none⟩) 32 c1, .slice (some ⟨b2, 0, none⟩) 32 c2] w fun e w' => e = .returned (.int .i64 (cmpL x y)) ∧ Below w.heap.size w w' := by
  have h : (callFunc 44 #[.slice (some ⟨b1, 0, none⟩) 32 c1, .slice (some ⟨b2, 0, none⟩) 32 c2]).run Try.prog w = .ok (.value (.int .i64 (cmpL x y))) w := by
    rw [run_callFunc_extern Try.func44 (by kernel_rfl) (by kernel_rfl) (by kernel_rfl) (e := Extern.BytealgCompare.compare) (by kernel_rfl)]
    have := run_bytealg_Compare (P := Try.prog) w b1 b2 0 0 c1 c2 x y (bytesAt_row hx) (bytesAt_row hy) (by rw [kx.len, ky.len]) kx.lt ky.lt
    rw [kx.len, ky.len] at this
    rw [this]
    rfl
  clear hx hy
  go_enter Try.func40, Try.ntmps40
  go_wp2
  go_ret
  exact ⟨rfl, Below.refl _ _⟩

theorem Compare_calls (a b : List Nat) (ha : Key a) (hb : Key b) (w : World) :
    Calls Try.prog 22 #[.agg (kv a), .agg (kv b)] w fun e w' => e = .returned (.int .i64 (cmpL a b)) ∧ Below w.heap.size w w' := by
  have HA := Lib.hid ha
  have HB := Lib.hid hb
  clear ha hb
  have st := St.init w
  go_enter Try.func22, Try.ntmps22
  go_wp2_with (first | (refine wpList_boxA (by assumption) rfl 23 _ rfl _ rfl ?_; intro b1 w1 st1; clear st) | (refine wpList_boxA (by assumption) rfl 23 _ rfl _ rfl ?_; intro b2 w2 st2; clear st1))
  refine region_inv 4 st2 mixed (by kernel_rfl) ?_
  intro I hI hI'
  simp only [List.take_succ_cons, List.take_zero, List.drop_succ_cons, List.drop_zero]
  iterate 2
    (refine Inv.wpInv_step (fun K hK => ?_); go_simp; apply inv_run; · (intro wx hw; go_simp; (try go_ints); (try go_simp); (try (rw [if_pos (by omega)])); (try go_simp); (first | done | rfl))
     refine hK _ ?_; clear hK K)
  (refine Inv.wpInv_step (fun K hK => ?_); go_simp; refine inv_call hI hI' 40 #[.slice (some ⟨b1, 0, none⟩) 32 32, .slice (some ⟨b2, 0, none⟩) 32 32] ?_ (fun wx stx => bytesCompare_calls wx b1 b2 32 32 a b (stx.at (i := 1) rfl) (stx.at (i := 0) rfl) HA.out HB.out) ?_; · (intro wx hw; go_simp)
   refine hK _ ?_; clear hK K)
  iterate 1
    (refine Inv.wpInv_step (fun K hK => ?_); go_simp; apply inv_run; · (intro wx hw; go_simp; (try go_ints); (try go_simp); (try (rw [if_pos (by omega)])); (try go_simp); (first | done | rfl))
     refine hK _ ?_; clear hK K)
  refine Inv.wpInv_nil ?_
  intro w4 st4
  clear st2 hI hI'
  go_wp2
  go_ret
  exact ⟨rfl, st4.below⟩

end Go.Proofs.Ytdkkklhpfflpkaa
