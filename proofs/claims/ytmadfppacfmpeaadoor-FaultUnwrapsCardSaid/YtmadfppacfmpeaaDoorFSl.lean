/- Slices that the call appends to, slices put together. No program is named here. -/
import Derived.Test.YtmadfppacfmpeaaDoorFCode
import Derived.Lib.SmallJoins
open Go Go.RowKit
namespace Go.Proofs.YtmadfppacfmpeaaDoor

/-- The value is a slice of these cells. -/
def RdC (w : World) (v : Value) (l : List Value) : Prop :=
  (l = [] ∧ ∃ a cap, v = .slice a 0 cap) ∨ ∃ b off cap, v = .slice (some ⟨b, off, none⟩) l.length cap ∧ ∀ i x, l[i]? = some x → w.cell? ⟨b, off + i, none⟩ = some x

theorem RdC.call {w w' : World} {v : Value} {l : List Value} (h : RdC w v l) (hb : Below w.heap.size w w') : RdC w' v l := by
  rcases h with h | ⟨b, off, cap, hv, hc⟩
  · exact .inl h
  · refine .inr ⟨b, off, cap, hv, fun i x hi => ?_⟩
    rw [hb.cell (block_lt_of_cell (hc i x hi))]
    exact hc i x hi

theorem RdC.of_own {w : World} {base n : Nat} {e : TypeId} {v : Value} {l : List Value} (hn : n = l.length) (h : w.ownsRow base e 1 v n l) : RdC w v l := by
  subst hn
  rcases h.2 with ⟨hv, h0⟩ | ⟨g, cap, cur, hv, _, hg, _, _, _, htake⟩
  · exact .inl ⟨List.eq_nil_of_length_eq_zero h0, none, 0, by rw [hv]⟩
  · refine .inr ⟨g, 0, cap, hv, fun i x hi => ?_⟩
    simp only [World.cell?, hg, Option.isSome_none, Bool.false_eq_true, if_false, Nat.zero_add]
    have hlt := (List.getElem?_eq_some_iff.1 hi).1
    rw [← htake, List.getElem?_take, if_pos (by omega)] at hi
    rw [← Array.getElem?_toList]
    exact hi

theorem own_call {w w' : World} {base : Nat} {e : TypeId} {size n : Nat} {v : Value} {xs : List Value} (h : w.ownsRow base e size v n xs) (hb : Below w.heap.size w w') : w'.ownsRow base e size v n xs := by
  refine h.kept (row := none) ⟨hb.os, hb.tape, hb.output, hb.size, fun k hk _ => hb.block k hk⟩ ?_
  cases hv : v.ownBlock with
  | none => exact .inl rfl
  | some k => exact .inr (by simp)

section
variable {P : Program} {ops : Array Oper} {rest : List Oper} {o : Oper} {a : Act} {w w0 : World} {Q : Exit → Act → World → Prop} {B : Nat} {L : List (Nat × Array Value × TypeId)}

theorem St.grown {w' : World} {row : Option Nat} {base : Nat} (st : St B w0 L w) (hg : w.grownBy w' row) (hr : ∀ k, row = some k → base ≤ k) (hL : ∀ p ∈ L, p.1 < base) (hB : B ≤ base) : St B w0 L w' :=
  ⟨st.below.trans ⟨hg.os, hg.tape, hg.output, hg.size, fun k hk => hg.block k (by have := st.size; omega) (fun e => by have := hr k e.symm; omega)⟩, Nat.le_trans st.size hg.size,
   fun p hp => ⟨(st.rows p hp).1, by
     rw [hg.block p.1 (heap_lt (st.rows p hp).2) (fun e => by have := hr p.1 e.symm; have := hL p hp; omega)]
     exact (st.rows p hp).2⟩, st.nodup⟩

/-- append of the cells of a new block. -/
theorem wpList_appendOwn {base : Nat} (st : St B w0 L w) (hL : ∀ p ∈ L, p.1 < base) (hB : B ≤ base) (hgd : o.guard = none) (s x : Operand) (t : TypeId)
    (ho : o.op = .call { callee := .builtin .append, args := #[s, x], argTypes := #[t, t] }) (e : TypeId) (z : Value) (size bytes : Nat) (ht : P.underlying t = some (.slice e))
    (hz : (P.info? e).bind (·.zero) = some z) (hsize : (P.info? e).map (·.size) = some size) (hby : (P.info? e).map (·.bytes) = some bytes) (hzs : z.cells.size = size) (hsz : 0 < size)
    (v : Value) (n : Nat) (xs : List Value) (hs : a.eval s = v) (hown : w.ownsRow base e size v n xs)
    (b m c : Nat) (news : Array Value) (tt : TypeId) (hx : a.eval x = .slice (some ⟨b, 0, none⟩) m c) (hl : news.size = m * size) (hb : w.heap[b]? = some (.cells news tt (0, 0))) (h1 : ∀ u ∈ news.toList, u.oneCell' = true)
    (h63 : n + m ≤ maxLen) (hbytes : (n + m) * bytes ≤ 140737488355328) (hbase : base ≤ w.heap.size)
    (h : ∀ v' w1, St B w0 L w1 → w1.ownsRow base e size v' (n + m) (xs ++ news.toList) → (v' = .slice none 0 0 ↔ v = .slice none 0 0 ∧ m = 0) → base ≤ w1.heap.size → wpList P ops Q rest (a.put o.dst v') w1) : wpList P ops Q (o :: rest) a w := by
  cases hq : P.info? e with
  | none => simp [hq] at hz
  | some i =>
    refine wpList_append_own w hgd s x t ho base e i z size bytes ht hq (by simpa [hq] using hz) (by simpa [hq] using hsize) (by simpa [hq] using hby) hzs hsz v n xs hs hown ⟨b, 0, none⟩ m c news.toList hx (by simpa using hl) (fun j u hu => ?_) h1 h63 hbytes hbase (fun v' w' g1 g2 g3 => ?_)
    · have hadd : (⟨b, 0, none⟩ : Addr).add j = ⟨b, j, none⟩ := by unfold Addr.add; split <;> simp_all
      rw [hadd, cell_of_row w b j news tt (0, 0) hb, ← Array.getElem?_toList]
      exact hu
    · exact h v' w' (st.grown g2 (fun k hk => (hown.lt k hk).1) hL hB) g1 g3 (Nat.le_trans hbase g2.size)

/-- A slice put together. -/
theorem wpList_buildSlice (st : St B w0 L w) (hgd : Region.wanted o (yielded ops a.tmps) = true) (t : TypeId) (len : Nat) (parts : Array (Nat × Operand)) (ho : o.op = .buildSlice t len parts) (e : TypeId) (ht : P.underlying t = some (.slice e)) (z : Value) (size : Nat)
    (hz : (P.info? e).bind (·.zero) = some z) (hsize : (P.info? e).map (·.size) = some size) (hlim : len * size ≤ 16777216) (hpos : 0 < len * size) (ps : List (Nat × Value)) (hp : (parts.map fun (i, x) => (i, a.eval x)).toList = ps) (cs : Array Value)
    (hf : Instr.fill (fun i => some (i * size, size)) ((Array.range (len * size)).map (z.cells[· % z.cells.size]!)) ps = some cs)
    (h : ∀ b w1, St B w0 ((b, cs, e) :: L) w1 → Below w.heap.size w w1 → wpList P ops Q rest (a.put o.dst (.slice (some ⟨b, 0, none⟩) len len)) w1) : wpList P ops Q (o :: rest) a w := by
  refine wpList_wanted hgd fun K hK => ?_
  cases hq : P.info? e with
  | none => simp [hq] at hz
  | some i =>
    have hi : i.zero = some z := by simpa [hq] using hz
    have hs : i.size = size := by simpa [hq] using hsize
    subst hs
    subst hp
    have hrun : (Instr.buildSlice t len (parts.map fun (i, x) => (i, a.eval x))).run P w = .ok (.slice (some ⟨w.heap.size, 0, none⟩) len len) (w.alloc (.cells cs e)) := by
      have n1 : ¬ len * i.size > 2 ^ 24 := by omega
      have n2 : ¬ len * i.size = 0 := by omega
      simp only [Instr.buildSlice, Sem.run_bind, run_underlying ht, Result.andThen_ok, sizeOf, typeInfo, run_program, hq, Sem.run_pure, n1, n2, if_false, zeroValue, hi, hf, newRow, run_newObj]
      rfl
    unfold Oper.wp execOp
    simp only [ho, Sem.run_bind, hrun, Result.andThen_ok, Sem.run_pure, Oper.upon]
    exact hK _ _ (h _ _ (st.new cs e) ((Below.refl _ _).alloc (Nat.le_refl _) _))
end

end Go.Proofs.YtmadfppacfmpeaaDoor
