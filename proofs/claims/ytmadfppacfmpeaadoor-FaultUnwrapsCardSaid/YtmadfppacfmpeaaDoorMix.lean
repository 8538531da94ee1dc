/- Regions that draw their order and hold operations whose values hang on the world. No program is named here. -/
import Derived.Test.YtmadfppacfmpeaaDoorBase
open Go Go.RowKit
namespace Go.Proofs.YtmadfppacfmpeaaDoor

/-! ### Regions that draw their order and hold operations whose values hang on the world -/
namespace Mix
section
variable {P : Program} {ops : Array Oper} {md : Region.Mode}

def noExit : Exit → Act → World → Prop := fun _ _ _ => False

/-- What holds of a world holds of each world that has grown out of it. -/
def Up (I : World → Prop) : Prop := ∀ w w', I w → Below w.heap.size w w' → I w'

/-- One value, and the world has only grown. -/
def ResUp (P : Program) (w : World) (v : Value) : Result Next → Prop
  | .ok (.value u) w' => u = v ∧ Below w.heap.size w w'
  | .ok .skip w' => undef = v ∧ Below w.heap.size w w'
  | .ok (.enter f args) w' => Below w.heap.size w w' ∧ Calls P f args w' (fun e w'' => e = .returned v ∧ Below w'.heap.size w' w'')
  | _ => False

def OpUp (P : Program) (I : World → Prop) (o : Oper) (a : Act) (v : Value) : Prop := ∀ w, I w → ResUp P w v ((execOp a.eval o).run P w)

def YieldsU (P : Program) (ops : Array Oper) (I : World → Prop) (o : Oper) (v : Value) (a : Act) : Prop :=
  (Region.wanted o (yielded ops a.tmps) = true ∧ OpUp P I o a v) ∨ (Region.wanted o (yielded ops a.tmps) = false ∧ v = undef)

def mxOp (P : Program) (ops : Array Oper) (i : Nat) (K : Act → World → Prop) (a : Act) (w : World) : Prop :=
  match ops[i]? with
  | none => K a w
  | some o => if Region.wanted o (yielded ops a.tmps) then o.wp P a w K noExit else K (a.put o.dst undef) w

theorem wp_exit {o : Oper} {a : Act} {w : World} {K K' : Act → World → Prop} {Q : Exit → Act → World → Prop} (h : ∀ a w, K a w → K' a w) (hh : o.wp P a w K noExit) : o.wp P a w K' Q := by
  unfold Oper.wp at *
  generalize (execOp a.eval o).run P w = r at *
  cases r with
  | ok n w' =>
    cases n <;> simp only [Oper.upon] at hh ⊢
    case value u => exact h _ _ hh
    case skip => exact h _ _ hh
    case defer d => exact h _ _ hh
    case enter f args =>
      refine hh.mono fun e w'' he => ?_
      cases e with
      | returned u => exact h _ _ he
      | panicked c => exact he.elim
      | outgrown => obtain ⟨_, _, hf⟩ := he; exact hf.elim
    case row row args => exact Rows.mono hh fun u w'' he => h _ _ he
  | halt x w' =>
    cases x <;> simp only [Oper.upon] at hh ⊢
    case panic u => exact hh.elim

theorem mxOp_mono {i : Nat} {a : Act} {w : World} {K K' : Act → World → Prop} (h : ∀ a w, K a w → K' a w) (hh : mxOp P ops i K a w) : mxOp P ops i K' a w := by
  unfold mxOp at *
  split
  · exact h _ _ (by simpa [*] using hh)
  · rename_i o ho
    simp only [ho] at hh
    split
    · rename_i hw; simp only [hw, if_true] at hh; exact wp_exit h hh
    · rename_i hw; simp only [hw] at hh; exact h _ _ hh

theorem wpOp_of_mxOp {i : Nat} {a : Act} {w : World} {K K' : Act → World → Prop} {Q : Exit → Act → World → Prop} (h : ∀ a w, K a w → K' a w) (hh : mxOp P ops i K a w) : wpOp P ops Q i K' a w := by
  unfold mxOp at hh
  unfold wpOp
  split
  · rename_i ho; simp only [ho] at hh; exact h _ _ hh
  · rename_i o ho
    simp only [ho] at hh
    split
    · rename_i hw; simp only [hw, if_true] at hh; exact .inl (wp_exit h hh)
    · rename_i hw; simp only [hw] at hh; exact h _ _ hh

theorem OpUp.mono {I I' : World → Prop} {o : Oper} {a : Act} {v : Value} (h : OpUp P I o a v) (hI : ∀ w, I' w → I w) : OpUp P I' o a v := fun w hw => h w (hI w hw)

theorem YieldsU.mono {I I' : World → Prop} {o : Oper} {v : Value} {a : Act} (h : YieldsU P ops I o v a) (hI : ∀ w, I' w → I w) : YieldsU P ops I' o v a :=
  h.imp (fun ⟨h1, h2⟩ => ⟨h1, h2.mono hI⟩) id

theorem YieldsU.of_same {I : World → Prop} {o : Oper} {v : Value} {a a' : Act} (hy : YieldsU P ops I o v a) (he : execOp a'.eval o = execOp a.eval o)
    (hw : Region.wanted o (yielded ops a'.tmps) = Region.wanted o (yielded ops a.tmps)) : YieldsU P ops I o v a' := by
  unfold YieldsU OpUp at *
  rw [he, hw]
  exact hy

/-- An operation of one value, taken now. -/
theorem YieldsU.mxOp {I : World → Prop} {i : Nat} {o : Oper} {v : Value} {a : Act} {w : World} (hi : ops[i]? = some o) (hy : YieldsU P ops I o v a) (hI : I w) {K : Act → World → Prop}
    (h : ∀ w', Below w.heap.size w w' → K (a.put o.dst v) w') : mxOp P ops i K a w := by
  unfold Mix.mxOp
  simp only [hi]
  rcases hy with ⟨hw, hv⟩ | ⟨hw, rfl⟩
  · simp only [hw, if_true]
    have hr := hv w hI
    unfold Oper.wp
    generalize (execOp a.eval o).run P w = r at *
    cases r with
    | ok n w' =>
      cases n <;> simp only [ResUp] at hr <;> simp only [Oper.upon]
      case value u => obtain ⟨rfl, h2⟩ := hr; exact h _ h2
      case skip => obtain ⟨h1, h2⟩ := hr; rw [h1]; exact h _ h2
      case enter f args => exact hr.2.mono fun e w'' ⟨he, hb⟩ => by subst he; exact h _ (hr.1.trans (hb.mono hr.1.size))
    | halt x w' => simp only [ResUp] at hr
  · simp only [hw, Bool.false_eq_true, if_false]; exact h _ (Below.refl _ _)

theorem mxOp_put {I : World → Prop} {j : Nat} {oi oj : Oper} {v : Value} (hj : ops[j]? = some oj) (hap : oi.apart ops oj = true)
    (hsi : ∀ cs b, oi.op ≠ .select cs b) (hsj : ∀ cs b, oj.op ≠ .select cs b) {K : Act → World → Prop} {a : Act} {w : World}
    (hy : YieldsU P ops I oi v a) (h : mxOp P ops j K (a.put oi.dst v) w) :
    mxOp P ops j (fun a' w' => YieldsU P ops I oi v a' ∧ K (a'.put oi.dst v) w') a w := by
  obtain ⟨h1, h2, h3⟩ := Oper.apart_spec hap
  have keep : ∀ (a : Act), YieldsU P ops I oi v a → ∀ u, YieldsU P ops I oi v (a.put oj.dst u) := fun a hy u =>
    hy.of_same (execOp_put oi hsi a oj.dst u h3) (wanted_put oi a oj.dst u h3)
  have keepD : ∀ d, YieldsU P ops I oi v { a with defers := d :: a.defers } := fun d => hy.of_same rfl rfl
  unfold mxOp at *
  simp only [hj] at *
  rw [wanted_put oj a oi.dst v h1] at h
  split
  · rename_i hw
    simp only [hw, if_true] at h
    unfold Oper.wp at *
    rw [execOp_put oj hsj a oi.dst v h1] at h
    generalize (execOp a.eval oj).run P w = r at *
    cases r with
    | ok n w' =>
      cases n <;> simp only [Oper.upon] at h ⊢
      case value u => exact ⟨keep a hy u, by rw [← Act.put_comm a v u h2]; exact h⟩
      case skip => exact ⟨keep a hy _, by rw [← Act.put_comm a v undef h2]; exact h⟩
      case defer d =>
        refine ⟨keep _ (keepD d) _, ?_⟩
        rw [← Act.put_comm _ v undef h2, ← Act.put_defers]
        exact h
      case enter f args =>
        refine Calls.mono h fun e w'' he => ?_
        cases e with
        | returned u => exact ⟨keep a hy u, by rw [← Act.put_comm a v u h2]; exact he⟩
        | panicked c => exact he.elim
        | outgrown => exact he
      case row row args => exact Rows.mono h fun u w'' he => ⟨keep a hy u, by rw [← Act.put_comm a v u h2]; exact he⟩
    | halt x w' =>
      cases x <;> simp only [Oper.upon] at h ⊢
      case panic u => exact h
  · rename_i hw
    simp only [hw] at h
    exact ⟨keep a hy _, by rw [← Act.put_comm a v undef h2]; exact h⟩

/-- In whatever order the next f of the first n operations go, L holds behind them; what is known of the world is kept by each. -/
def Good (P : Program) (md : Region.Mode) (ops : Array Oper) (n : Nat) (L : (World → Prop) → Array Bool → Act → Prop) : Nat → (World → Prop) → Array Bool → Act → Prop
  | 0, I, listed, a => L I listed a
  | f + 1, I, listed, a =>
    Region.ready md ops listed ≠ [] ∧ ∀ j ∈ Region.ready md ops listed, j < n ∧ ∀ w, I w →
      mxOp P ops j (fun a' w' => ∃ I' : World → Prop, Up I' ∧ I' w' ∧ (∀ w, I' w → I w) ∧ Good P md ops n L f I' (listed.setIfInBounds j true) a') a w

theorem wpAny_of_good {n g : Nat} {L : (World → Prop) → Array Bool → Act → Prop} {Q' : Exit → Act → World → Prop} (hL : ∀ I listed a w, I w → L I listed a → wpAny P md ops Q' g listed a w) :
    ∀ (f : Nat) (I : World → Prop) (listed : Array Bool) (a : Act) (w : World), I w → Good P md ops n L f I listed a → wpAny P md ops Q' (f + g) listed a w
  | 0, I, listed, a, w, hI, h => by rw [Nat.zero_add]; exact hL _ _ _ _ hI h
  | f + 1, I, listed, a, w, hI, h => by
    rw [show f + 1 + g = (f + g) + 1 by omega]
    exact ⟨fun h0 => absurd h0 h.1, fun i hi => wpOp_of_mxOp (fun a' w' ⟨I', _, hw', _, h'⟩ => wpAny_of_good hL f I' _ a' w' hw' h') ((h.2 i hi).2 w hI)⟩

/-- An operation of one value that is ready may be taken first. -/
theorem good_first {n i : Nat} {oi : Oper} {v : Value} {L : (World → Prop) → Array Bool → Act → Prop} (hi : ops[i]? = some oi) (hsel : ∀ (j : Nat) (o : Oper) cs b, ops[j]? = some o → o.op ≠ .select cs b)
    (hlt : ∀ listed, HeadInv md ops n listed → ∀ i, i < n → listed.getD i true = false → ∀ t, n ≤ t → t ∉ Region.ready md ops listed) (hin : i < n)
    (hdone : ∀ I listed a, L I listed a → ∀ j ∈ Region.ready md ops listed, n ≤ j) :
    ∀ (f : Nat) (I : World → Prop) (listed : Array Bool) (a : Act), Up I → HeadInv md ops n listed →
      (∀ j oj, ops[j]? = some oj → j ≠ i → listed.getD j true = false → (∀ e ∈ oj.after, Region.binds md e = true → e.on ≠ i) → oi.apart ops oj = true) →
      i ∈ Region.ready md ops listed → YieldsU P ops I oi v a →
      Good P md ops n L f I (listed.setIfInBounds i true) (a.put oi.dst v) → Good P md ops n L (f + 1) I listed a := by
  intro f
  induction f with
  | zero =>
    intro I listed a hup inv _ hr hy H
    have hun := (mem_ready.1 hr).1
    refine ⟨fun h => (by rw [h] at hr; cases hr), fun j hj => ?_⟩
    have hjn : j < n := by
      rcases Nat.lt_or_ge j n with h | h
      · exact h
      · exact absurd hj (hlt listed inv i hin hun j h)
    refine ⟨hjn, fun w hw => ?_⟩
    by_cases hji : j = i
    · subst hji; exact hy.mxOp hi hw fun w' hb => ⟨I, hup, hup w w' hw hb, fun _ h => h, H⟩
    · have := hdone _ _ _ H j (ready_mono hj hji)
      omega
  | succ f ih =>
    intro I listed a hup inv hfree hr hy H
    have hun := (mem_ready.1 hr).1
    refine ⟨fun h => (by rw [h] at hr; cases hr), fun j hj => ?_⟩
    have hjn : j < n := by
      rcases Nat.lt_or_ge j n with h | h
      · exact h
      · exact absurd hj (hlt listed inv i hin hun j h)
    refine ⟨hjn, fun w hw => ?_⟩
    by_cases hji : j = i
    · subst hji; exact hy.mxOp hi hw fun w' hb => ⟨I, hup, hup w w' hw hb, fun _ h => h, H⟩
    · have h1 := (H.2 j (ready_mono hj hji)).2 w hw
      obtain ⟨hjun, oj, hoj, hall⟩ := mem_ready.1 hj
      have hnot : ∀ e ∈ oj.after, Region.binds md e = true → e.on ≠ i := fun e he hb heq => by
        have h1 := hall e he hb
        rw [heq, getD_both hun] at h1
        cases h1
      have h2 := mxOp_put hoj (hfree j oj hoj hji hjun hnot) (fun cs b => hsel i oi cs b hi) (fun cs b => hsel j oj cs b hoj) hy h1
      have hfree' : ∀ k ok, ops[k]? = some ok → k ≠ i → (listed.setIfInBounds j true).getD k true = false →
          (∀ e ∈ ok.after, Region.binds md e = true → e.on ≠ i) → oi.apart ops ok = true := fun k ok hk hki hun hno => by
        refine hfree k ok hk hki ?_ hno
        by_cases hjk : j = k
        · subst hjk; exact hjun
        · rw [getD_set_ne true hjk] at hun; exact hun
      refine mxOp_mono (fun a' w' ⟨h3, I', hup', hw', hsub, h4⟩ => ⟨I', hup', hw', hsub, ih I' (listed.setIfInBounds j true) a' hup' (inv.set hj hjn) hfree' (ready_mono hr (Ne.symm hji)) (h3.mono hsub) ?_⟩) h2
      rw [Array.setIfInBounds_comm _ _ hji]
      exact h4

def setAll (listed : Array Bool) (l : List Nat) : Array Bool := l.foldl (fun s i => s.setIfInBounds i true) listed

/-- Each of these operations is ready in its turn and stands apart from those that need not wait for it. -/
def batchB (md : Region.Mode) (ops : Array Oper) (n : Nat) : List Nat → Array Bool → Bool
  | [], _ => true
  | i :: l, listed => decide (i < n) && (Region.ready md ops listed).contains i && Region.free md ops listed i && batchB md ops n l (listed.setIfInBounds i true)

def wpUp (P : Program) (ops : Array Oper) (I : World → Prop) (Q : Act → Prop) : List Nat → Act → Prop
  | [], a => Q a
  | i :: l, a =>
    match ops[i]? with
    | none => wpUp P ops I Q l a
    | some o => if Region.wanted o (yielded ops a.tmps) then ∃ v, OpUp P I o a v ∧ wpUp P ops I Q l (a.put o.dst v) else wpUp P ops I Q l (a.put o.dst undef)

theorem wpUp_cons {I : World → Prop} {Q : Act → Prop} {i : Nat} {l : List Nat} {a : Act} {o : Oper} (hi : ops[i]? = some o)
    (h : ∀ K : Act → Prop, (∀ a, wpUp P ops I Q l a → K a) → if Region.wanted o (yielded ops a.tmps) then ∃ v, OpUp P I o a v ∧ K (a.put o.dst v) else K (a.put o.dst undef)) : wpUp P ops I Q (i :: l) a := by
  have := h _ (fun _ h => h)
  simp only [wpUp, hi]
  exact this

theorem wpUp_nil {I : World → Prop} {Q : Act → Prop} {a : Act} (h : Q a) : wpUp P ops I Q [] a := h

structure Form (md : Region.Mode) (ops : Array Oper) (n : Nat) (L : (World → Prop) → Array Bool → Act → Prop) : Prop where
  sel : Region.noSelect ops = true
  lt : ∀ listed, HeadInv md ops n listed → ∀ i, i < n → listed.getD i true = false → ∀ t, n ≤ t → t ∉ Region.ready md ops listed
  done : ∀ I listed a, L I listed a → ∀ j ∈ Region.ready md ops listed, n ≤ j

theorem good_batch {n : Nat} {L : (World → Prop) → Array Bool → Act → Prop} (F : Form md ops n L) {I : World → Prop} (hup : Up I) {f : Nat} : ∀ (l : List Nat) (listed : Array Bool) (a : Act), HeadInv md ops n listed → batchB md ops n l listed = true →
    wpUp P ops I (fun a' => HeadInv md ops n (setAll listed l) → Good P md ops n L f I (setAll listed l) a') l a → Good P md ops n L (l.length + f) I listed a
  | [], listed, a, inv, _, h => by
    rw [List.length_nil, Nat.zero_add]
    exact h inv
  | i :: l, listed, a, inv, hB, h => by
    simp only [batchB, Bool.and_eq_true, decide_eq_true_eq] at hB
    obtain ⟨⟨⟨hin, hr⟩, hf⟩, hB'⟩ := hB
    have hr' : i ∈ Region.ready md ops listed := by simpa using hr
    obtain ⟨_, oi, hoi, _⟩ := mem_ready.1 hr'
    have hset := inv.set hr' hin
    simp only [wpUp, hoi] at h
    rw [List.length_cons, show l.length + 1 + f = (l.length + f) + 1 by omega]
    by_cases hw : Region.wanted oi (yielded ops a.tmps) = true
    · rw [if_pos hw] at h
      obtain ⟨v, hv, hK⟩ := h
      exact good_first hoi (Region.noSelect_spec F.sel) F.lt hin F.done _ I listed a hup inv (Region.free_spec hoi hf) hr' (.inl ⟨hw, hv⟩) (good_batch F hup l _ _ hset hB' hK)
    · rw [if_neg hw] at h
      exact good_first hoi (Region.noSelect_spec F.sel) F.lt hin F.done _ I listed a hup inv (Region.free_spec hoi hf) hr' (.inr ⟨by simpa using hw, rfl⟩) (good_batch F hup l _ _ hset hB' h)

/-- One operation alone is ready: it may do what it will. -/
theorem good_one {n f i : Nat} {L : (World → Prop) → Array Bool → Act → Prop} {I : World → Prop} {listed : Array Bool} {a : Act} (hr : (decide (Region.ready md ops listed = [i]) && decide (i < n)) = true) (inv : HeadInv md ops n listed)
    (h : ∀ w, I w → mxOp P ops i (fun a' w' => ∃ I' : World → Prop, Up I' ∧ I' w' ∧ (∀ w, I' w → I w) ∧ (HeadInv md ops n (listed.setIfInBounds i true) → Good P md ops n L f I' (listed.setIfInBounds i true) a')) a w) : Good P md ops n L (f + 1) I listed a := by
  simp only [Bool.and_eq_true, decide_eq_true_eq] at hr
  have hm : i ∈ Region.ready md ops listed := by rw [hr.1]; exact List.mem_cons_self
  refine ⟨by rw [hr.1]; exact List.cons_ne_nil _ _, fun j hj => ?_⟩
  rw [hr.1] at hj
  obtain rfl : j = i := by simpa using hj
  exact ⟨hr.2, fun w hw => mxOp_mono (fun a' w' ⟨I', h1, h2, h3, h4⟩ => ⟨I', h1, h2, h3, h4 (inv.set hm hr.2)⟩) (h w hw)⟩

/-- Two operations are ready. -/
theorem good_two {n f i k : Nat} {L : (World → Prop) → Array Bool → Act → Prop} {I : World → Prop} {listed : Array Bool} {a : Act} (hr : (decide (Region.ready md ops listed = [i, k]) && decide (i < n) && decide (k < n)) = true) (inv : HeadInv md ops n listed)
    (h : ∀ w, I w → mxOp P ops i (fun a' w' => ∃ I' : World → Prop, Up I' ∧ I' w' ∧ (∀ w, I' w → I w) ∧ (HeadInv md ops n (listed.setIfInBounds i true) → Good P md ops n L f I' (listed.setIfInBounds i true) a')) a w)
    (h' : ∀ w, I w → mxOp P ops k (fun a' w' => ∃ I' : World → Prop, Up I' ∧ I' w' ∧ (∀ w, I' w → I w) ∧ (HeadInv md ops n (listed.setIfInBounds k true) → Good P md ops n L f I' (listed.setIfInBounds k true) a')) a w) : Good P md ops n L (f + 1) I listed a := by
  simp only [Bool.and_eq_true, decide_eq_true_eq] at hr
  have hm : i ∈ Region.ready md ops listed := by rw [hr.1.1]; exact List.mem_cons_self
  have hm' : k ∈ Region.ready md ops listed := by rw [hr.1.1]; exact List.mem_cons_of_mem _ List.mem_cons_self
  refine ⟨by rw [hr.1.1]; exact List.cons_ne_nil _ _, fun j hj => ?_⟩
  rw [hr.1.1] at hj
  rcases List.mem_cons.1 hj with rfl | hj
  · exact ⟨hr.1.2, fun w hw => mxOp_mono (fun a' w' ⟨I', h1, h2, h3, h4⟩ => ⟨I', h1, h2, h3, h4 (inv.set hm hr.1.2)⟩) (h w hw)⟩
  · obtain rfl : j = k := by simpa using hj
    exact ⟨hr.2, fun w hw => mxOp_mono (fun a' w' ⟨I', h1, h2, h3, h4⟩ => ⟨I', h1, h2, h3, h4 (inv.set hm' hr.2)⟩) (h' w hw)⟩

/-- What stands behind the first n operations: the others, in their one order. -/
def Leaf (P : Program) (ops : Array Oper) (l : List Oper) (n : Nat) (Q : Exit → Act → World → Prop) (I : World → Prop) (listed : Array Bool) (a : Act) : Prop :=
  Region.seqB .any ops (ops.size - n) n listed = true ∧ ∀ w, I w → wpList P ops Q (l.drop n) a w

def mixB (ops : Array Oper) (n : Nat) : Bool :=
  Region.noSelect ops && (decide (n = ops.size) || (decide (n < ops.size) && Region.sinkB .any ops n && Region.chainB .any ops n))

theorem wp_region_mix {id : Nat} {Q : Exit → Act → World → Prop} {a : Act} {w : World} {l : List Oper} (n : Nat) (I : World → Prop) (hm : P.follows .mixedOrders = true) (hB : mixB l.toArray n = true)
    (hd : I { w with drawn := w.drawn + 1 })
    (h : Form .any l.toArray n (Leaf P l.toArray l n Q) → HeadInv .any l.toArray n (Array.replicate l.toArray.size false) → Good P .any l.toArray n (Leaf P l.toArray l n Q) n I (Array.replicate l.toArray.size false) a) : (Code.region id l.toArray true).wp P Q a w := by
  simp only [mixB, Bool.and_eq_true, Bool.or_eq_true, decide_eq_true_eq] at hB
  obtain ⟨hsel, hn⟩ := hB
  have hn' : n ≤ l.length := by
    rcases hn with hn | ⟨⟨hn, _⟩, _⟩
    · simpa using Nat.le_of_eq hn
    · have : n < l.length := by simpa using hn
      omega
  have hdl : (l.drop n).length = l.toArray.size - n := by simp
  have inv0 : HeadInv .any l.toArray n (Array.replicate l.toArray.size false) :=
    ⟨by simp, fun j oj _ hl => (by rw [getD_replicate_false] at hl; cases hl), fun t _ ht => getD_in (by simpa using ht) (getD_replicate_false _ _)⟩
  have F : Form .any l.toArray n (Leaf P l.toArray l n Q) := by
    refine ⟨hsel, fun listed inv i hi hun t ht hr => ?_, fun I listed a hL => seqB_ready hL.1⟩
    rcases hn with hn | ⟨⟨hn, hs⟩, hc⟩
    · obtain ⟨_, ot, hot, _⟩ := mem_ready.1 hr
      have := (Array.getElem?_eq_some_iff.1 hot).1
      omega
    · exact tail_waits hs hc hn inv _ i rfl hi hun t ht hr
  refine wp_region_any hm ?_
  have := wpAny_of_good (Q' := Q) (g := l.toArray.size - n) (fun I listed a' w' hI hL => by
    have := wpAny_of_seq (md := .any) (Q' := Q) (l.drop n) n listed a' w' (fun j => by simp [List.getElem?_drop]) (by rw [hdl]; exact hL.1) (hL.2 w' hI)
    rwa [hdl] at this) _ _ _ _ _ hd (h F inv0)
  rw [show n + (l.toArray.size - n) = l.toArray.size by omega] at this
  exact this

theorem mxOp_go {i : Nat} {o : Oper} {a : Act} {w : World} {K : Act → World → Prop} (hi : ops[i]? = some o) (hw : Region.wanted o (yielded ops a.tmps) = true) (h : o.wp P a w K noExit) : mxOp P ops i K a w := by
  unfold mxOp
  simp only [hi, hw, if_true]
  exact h
end
end Mix

section
variable {P : Program} {o : Oper} {a : Act} {w w0 : World} {Q : Exit → Act → World → Prop} {B : Nat} {L : List (Nat × Array Value × TypeId)}
theorem St.up : Mix.Up (St B w0 L) := fun _ _ st hb => st.call hb

theorem up_run {I : World → Prop} {F : Value → Prop} {v : Value} (h : ∀ w, I w → (execOp a.eval o).run P w = .ok (.value v) w) (hF : F v) : ∃ v, Mix.OpUp P I o a v ∧ F v :=
  ⟨v, fun w hw => by rw [h w hw]; exact ⟨rfl, Below.refl _ _⟩, hF⟩

theorem up_loadR {I : World → Prop} {F : Value → Prop} (ty : TypeId) (x : Operand) (ho : o.op = .load ty x)
    (g : Nat) (hx : a.eval x = .pointer (some ⟨g, 0, none⟩)) (d : TypeDesc) (hu : P.underlying ty = some d) (hd : aggB d = true) (cs : Array Value) (t : TypeId)
    (hg : ∀ w, I w → w.heap[g]? = some (.cells cs t (0, 0))) (hi : (P.info? ty).map (·.size) = some cs.size) (hF : F (.agg cs)) : ∃ v, Mix.OpUp P I o a v ∧ F v := by
  refine ⟨_, fun w hw => ?_, hF⟩
  unfold execOp
  simp only [ho, hx, Sem.run_bind, run_loadAt_row w g t ty cs (0, 0) d (hg w hw) hu hd hi, Result.andThen_ok, Sem.run_pure, Mix.ResUp]
  exact ⟨trivial, Below.refl _ _⟩

theorem up_call {I : World → Prop} {F : Value → Prop} {v : Value} (f : FuncId) (args : Array Value) (h : ∀ w, I w → (execOp a.eval o).run P w = .ok (.enter f args) w)
    (hc : ∀ w, I w → Calls P f args w (fun e w' => e = .returned v ∧ Below w.heap.size w w')) (hF : F v) : ∃ v, Mix.OpUp P I o a v ∧ F v :=
  ⟨v, fun w hw => by rw [h w hw]; exact ⟨Below.refl _ _, hc w hw⟩, hF⟩
end

section
variable {P : Program} {ops : Array Oper} {md : Region.Mode} {a : Act} {w w0 : World} {B : Nat} {L : List (Nat × Array Value × TypeId)}
theorem St.swap {p q : Nat × Array Value × TypeId} (st : St B w0 (p :: q :: L) w) : St B w0 (q :: p :: L) w :=
  ⟨st.below, st.size, fun r hr => st.rows r (by simp only [List.mem_cons] at hr ⊢; rcases hr with h | h | h <;> simp [h]), by
    have := st.nodup
    simp only [List.map_cons, List.nodup_cons, List.mem_cons, not_or] at this ⊢
    exact ⟨⟨fun h => this.1.1 h.symm, this.2.1⟩, this.1.2, this.2.2⟩⟩

/-- A new variable, whatever its block. -/
theorem mxOp_newA (st : St B w0 L w) {i : Nat} {o : Oper} {K : Act → World → Prop} (hi : ops[i]? = some o) (hw : Region.wanted o (yielded ops a.tmps) = true) (ty : TypeId) (ho : o.op = .alloc ty) (cs : Array Value) (hz : (P.info? ty).bind (·.zero) = some (.agg cs))
    (h : ∀ b w1, St B w0 ((b, cs, ty) :: L) w1 → K (a.put o.dst (.pointer (some ⟨b, 0, none⟩))) w1) : Mix.mxOp P ops i K a w := by
  refine Mix.mxOp_go hi hw ?_
  unfold Oper.wp execOp
  cases hq : P.info? ty with
  | none => simp [hq] at hz
  | some i =>
    have hz' : i.zero = some (.agg cs) := by simpa [hq] using hz
    simp only [ho, Instr.alloc, zeroValue, typeInfo, run_program, hq, hz', newVar, newRow, Sem.run_bind, run_newObj, Sem.run_pure, Result.andThen_ok, Oper.upon]
    exact h _ _ (st.new _ ty)

/-- A call of whatever effect. -/
theorem mxOp_call {i : Nat} {o : Oper} {K : Act → World → Prop} (hi : ops[i]? = some o) (hw : Region.wanted o (yielded ops a.tmps) = true) (f : FuncId) (args : Array Value) (h : (execOp a.eval o).run P w = .ok (.enter f args) w)
    (hc : Calls P f args w (fun e w' => ∃ v, e = .returned v ∧ K (a.put o.dst v) w')) : Mix.mxOp P ops i K a w := by
  refine Mix.mxOp_go hi hw ?_
  unfold Oper.wp
  rw [h]
  simp only [Oper.upon]
  refine hc.mono ?_
  rintro e w' ⟨v, rfl, hk⟩
  exact hk

/-- Two new variables in either order. -/
theorem good_news {n f i k : Nat} {G : (World → Prop) → Array Bool → Act → Prop} {listed : Array Bool} {oi ok : Oper} (hr : (decide (Region.ready md ops listed = [i, k]) && decide (i < n) && decide (k < n)) = true)
    (hr1 : (decide (Region.ready md ops (listed.setIfInBounds i true) = [k])) = true) (hr2 : (decide (Region.ready md ops (listed.setIfInBounds k true) = [i])) = true) (hik : i ≠ k) (inv : HeadInv md ops n listed)
    (hoi : ops[i]? = some oi) (hok : ops[k]? = some ok) (hdst : ∀ d, oi.dst = some d → ok.dst ≠ some d) (gi : oi.guard = none) (gk : ok.guard = none) (ty : TypeId) (hti : oi.op = .alloc ty) (htk : ok.op = .alloc ty) (cs : Array Value) (hz : (P.info? ty).bind (·.zero) = some (.agg cs))
    (h : ∀ b b', HeadInv md ops n ((listed.setIfInBounds i true).setIfInBounds k true) →
      Mix.Good P md ops n G f (St B w0 ((b', cs, ty) :: (b, cs, ty) :: L)) ((listed.setIfInBounds i true).setIfInBounds k true) ((a.put oi.dst (.pointer (some ⟨b, 0, none⟩))).put ok.dst (.pointer (some ⟨b', 0, none⟩)))) :
    Mix.Good P md ops n G (f + 2) (St B w0 L) listed a := by
  have hB : i < n ∧ k < n := by
    simp only [Bool.and_eq_true, decide_eq_true_eq] at hr
    exact ⟨hr.1.2, hr.2⟩
  have wi : ∀ a : Act, Region.wanted oi (yielded ops a.tmps) = true := fun a => by unfold Region.wanted; rw [gi]
  have wk : ∀ a : Act, Region.wanted ok (yielded ops a.tmps) = true := fun a => by unfold Region.wanted; rw [gk]
  refine Mix.good_two hr inv (fun w st => ?_) (fun w st => ?_)
  · refine mxOp_newA st hoi (wi _) ty hti cs hz fun b w1 st1 => ⟨_, St.up, st1, fun _ s => s.drop, fun inv1 => ?_⟩
    refine Mix.good_one (by rw [hr1]; simpa using hB.2) inv1 fun w st => ?_
    exact mxOp_newA st hok (wk _) ty htk cs hz fun b' w2 st2 => ⟨_, St.up, st2, fun _ s => s.drop, fun inv2 => h b b' inv2⟩
  · refine mxOp_newA st hok (wk _) ty htk cs hz fun b' w1 st1 => ⟨_, St.up, st1, fun _ s => s.drop, fun inv1 => ?_⟩
    refine Mix.good_one (by rw [hr2]; simpa using hB.1) inv1 fun w st => ?_
    refine mxOp_newA st hoi (wi _) ty hti cs hz fun b w2 st2 => ⟨St B w0 ((b', cs, ty) :: (b, cs, ty) :: L), St.up, st2.swap, fun _ s => s.swap.drop, fun inv2 => ?_⟩
    have e : (listed.setIfInBounds k true).setIfInBounds i true = (listed.setIfInBounds i true).setIfInBounds k true := Array.setIfInBounds_comm _ _ (Ne.symm hik)
    rw [e] at inv2 ⊢
    rw [← Act.put_comm a _ _ hdst]
    exact h b b' inv2
end

end Go.Proofs.YtmadfppacfmpeaaDoor
