/- Parts of the proof that are used by the claim: Base, Mix. No condition is added here. -/
import Derived.WalkKit
import Derived.WalkLawsBesides
import Derived.WalkSpells
import Derived.WalkSmall
import Derived.Lib.Hide
import Derived.Laws.StructEq
import Derived.Laws.CopyRow
import Derived.Laws.Rows
import Derived.StillTail
namespace Go.Proofs.YtlcngapphloafaaGreatDoor
section
open Go Go.RowKit
namespace Inv
section
variable {P:Program} {ops:Array Oper} {md:Region.Mode} {I:World→Prop}
def ResInv(P:Program)(I:World→Prop)(v:Value):Result Next→Prop
 |.ok (.value u) w'=>u=v∧I w'
 |.ok .skip w'=>undef=v∧I w'
 |.ok (.enter f args) w'=>Calls P f args w' (fun e w''=>e=.returned v∧I w'')
 |_=>False
def OpInv(P:Program)(I:World→Prop)(o:Oper)(a:Act)(v:Value):Prop:=∀w,I w→ResInv P I v ((execOp a.eval o).run P w)
def wpInv(P:Program)(ops:Array Oper)(I:World→Prop)(Q:Act→Prop):List Oper→Act→Prop
 |[],a=>Q a
 |o::rest,a=>if Region.wanted o (yielded ops a.tmps) then ∃v,OpInv P I o a v∧wpInv P ops I Q rest (a.put o.dst v) else wpInv P ops I Q rest (a.put o.dst undef)
def ivOp(P:Program)(ops:Array Oper)(I:World→Prop)(i:Nat)(K:Act→Prop)(a:Act):Prop :=
 match ops[i]? with
 |none=>K a
 |some o=>if Region.wanted o (yielded ops a.tmps) then ∃v,OpInv P I o a v∧K (a.put o.dst v) else K (a.put o.dst undef)
theorem ivOp_mono{i:Nat}{a:Act}{K K':Act→Prop}(h:∀a,K a→K' a)(hh:ivOp P ops I i K a):ivOp P ops I i K' a:=by
 unfold ivOp at *
 split
 ·exact h _ (by simpa[*] using hh)
 ·rename_i o ho
  simp only[ho] at hh
  split
  ·rename_i hw;simp only[hw,if_true] at hh;obtain⟨v,h1,h2⟩:=hh;exact⟨v,h1,h _ h2⟩
  ·rename_i hw;simp only[hw] at hh;exact h _ hh
def YieldsI(P:Program)(ops:Array Oper)(I:World→Prop)(o:Oper)(v:Value)(a:Act):Prop :=
 (Region.wanted o (yielded ops a.tmps)=true∧OpInv P I o a v)∨(Region.wanted o (yielded ops a.tmps)=false∧v=undef)
theorem YieldsI.ivOp{i:Nat}{o:Oper}{v:Value}{a:Act}(hi:ops[i]?=some o)(hy:YieldsI P ops I o v a){K:Act→Prop}(h:K (a.put o.dst v)):ivOp P ops I i K a:=by
 show Inv.ivOp P ops I i K a
 unfold Inv.ivOp;simp only[hi];rcases hy with ⟨hw,hv⟩ | ⟨hw,rfl⟩
 ·simp only[hw,if_true];exact⟨v,hv,h⟩
 ·simp only[hw,Bool.false_eq_true,if_false];exact h
theorem YieldsI.of_same{o:Oper}{v:Value}{a a':Act}(hy:YieldsI P ops I o v a)(he:execOp a'.eval o=execOp a.eval o)
  (hw:Region.wanted o (yielded ops a'.tmps)=Region.wanted o (yielded ops a.tmps)):YieldsI P ops I o v a':=by
 unfold YieldsI OpInv at *;rw[he,hw];exact hy
theorem yieldsI_of_ivOp{i:Nat}{o:Oper}{a:Act}{K:Act→Prop}(hi:ops[i]?=some o)(h:ivOp P ops I i K a):∃v,YieldsI P ops I o v a∧K (a.put o.dst v):=by
 unfold ivOp at h;simp only[hi] at h
 by_cases hw:Region.wanted o (yielded ops a.tmps)=true
 ·simp only[hw,if_true] at h
  obtain⟨v,h1,h2⟩:=h;exact⟨v,.inl ⟨hw,h1⟩,h2⟩
 ·simp only[hw] at h
  exact⟨undef,.inr ⟨by simpa using hw,rfl⟩,h⟩
theorem ivOp_put{j:Nat}{oi oj:Oper}{v:Value}(hj:ops[j]?=some oj)(hap:oi.apart ops oj=true)
  (hsi:∀cs b,oi.op≠.select cs b) (hsj:∀cs b,oj.op≠.select cs b) {K:Act→Prop} {a:Act}
  (hy:YieldsI P ops I oi v a) (h:ivOp P ops I j K (a.put oi.dst v)) :
  ivOp P ops I j (fun a'=>YieldsI P ops I oi v a'∧K (a'.put oi.dst v)) a:=by
 obtain⟨h1,h2,h3⟩:=Oper.apart_spec hap;have keep:∀(a:Act),YieldsI P ops I oi v a→∀u,YieldsI P ops I oi v (a.put oj.dst u):=fun a hy u =>
  hy.of_same (execOp_put oi hsi a oj.dst u h3) (wanted_put oi a oj.dst u h3)
 unfold ivOp at *;simp only[hj] at *;rw[wanted_put oj a oi.dst v h1] at h
 split
 ·rename_i hw
  simp only[hw,if_true] at h;obtain⟨u,ho,hK⟩:=h;refine⟨u,?_,keep a hy u,by rw[←Act.put_comm a v u h2];exact hK⟩;unfold OpInv at *;rw[execOp_put oj hsj a oi.dst v h1] at ho;exact ho
 ·rename_i hw
  simp only[hw] at h;exact⟨keep a hy _,by rw[←Act.put_comm a v undef h2];exact h⟩
theorem Oper_wp_of_inv{o:Oper}{a:Act}{v:Value}{w:World}{K:Act→World→Prop}{Q:Exit→Act→World→Prop}(ho:OpInv P I o a v)(hI:I w)
  (h:∀w',I w'→K (a.put o.dst v) w'):o.wp P a w K Q:=by
 have hr:=ho w hI;unfold Oper.wp;generalize (execOp a.eval o).run P w=r at *
 cases r with
 |ok n w' =>
  cases n<;>simp only[ResInv] at hr<;>simp only[Oper.upon]
  case value u=>obtain⟨rfl,h2⟩:=hr;exact h _ h2
  case skip=>obtain⟨h1,h2⟩:=hr;rw[h1];exact h _ h2
  case enter f args=>exact hr.mono fun e w'' ⟨he,hw⟩=>by subst he;exact h _ hw
 |halt x w'=>simp only[ResInv] at hr
theorem wpOp_of_ivOp{i:Nat}{a:Act}{w:World}{K:Act→Prop}{K':Act→World→Prop}{Q:Exit→Act→World→Prop}(hI:I w)(h:∀a w,I w→K a→K' a w)
  (hh:ivOp P ops I i K a):wpOp P ops Q i K' a w:=by
 unfold ivOp at hh;unfold wpOp
 split
 ·rename_i ho;simp only[ho] at hh;exact h _ _ hI hh
 ·rename_i o ho
  simp only[ho] at hh
  split
  ·rename_i hw;simp only[hw,if_true] at hh;obtain⟨v,h1,h2⟩:=hh;exact .inl (Oper_wp_of_inv h1 hI fun w' hw'=>h _ _ hw' h2)
  ·rename_i hw;simp only[hw] at hh;exact h _ _ hI hh
def wpAnyI(P:Program)(md:Region.Mode)(ops:Array Oper)(I:World→Prop)(L:Array Bool→Act→Prop)(n:Nat):Nat→Array Bool→Act→Prop
 |0,listed,a=>L listed a
 |f+1,listed,a =>
  Region.ready md ops listed≠[]∧∀i∈Region.ready md ops listed,i<n∧ivOp P ops I i (wpAnyI P md ops I L n f (listed.setIfInBounds i true)) a
theorem wpAny_of_inv{n g:Nat}{L:Array Bool→Act→Prop}{Q':Exit→Act→World→Prop}(hL:∀listed a w,I w→L listed a→wpAny P md ops Q' g listed a w) :
  ∀(f:Nat)(listed:Array Bool) (a:Act) (w:World),I w→wpAnyI P md ops I L n f listed a→wpAny P md ops Q' (f+g) listed a w
 |0,listed,a,w,hI,h=>by rw[Nat.zero_add];exact hL _ _ _ hI h
 |f+1,listed,a,w,hI,h=>by
  rw[show f+1+g=(f+g)+1 by omega];exact⟨fun h0=>absurd h0 h.1,fun i hi=>wpOp_of_ivOp hI (fun a' w' hI' h'=>wpAny_of_inv hL f _ a' w' hI' h') (h.2 i hi).2⟩
theorem wpAnyI_first{n i:Nat}{oi:Oper}{v:Value}{L:Array Bool→Act→Prop}(hi:ops[i]?=some oi)(hsel:∀(j:Nat)(o:Oper) cs b,ops[j]?=some o→o.op≠.select cs b)
  (hlt:∀listed,HeadInv md ops n listed→∀i,i<n→listed.getD i true=false→∀t,n≤t→t∉Region.ready md ops listed) (hin:i<n)
  (hdone:∀listed a,L listed a→∀j∈Region.ready md ops listed,n≤j) :
  ∀(f:Nat)(listed:Array Bool) (a:Act),HeadInv md ops n listed →
   (∀j oj,ops[j]?=some oj→j≠i→listed.getD j true=false→(∀e∈oj.after,Region.binds md e=true→e.on≠i)→oi.apart ops oj=true) →
   i∈Region.ready md ops listed→YieldsI P ops I oi v a →
   wpAnyI P md ops I L n f (listed.setIfInBounds i true) (a.put oi.dst v)→wpAnyI P md ops I L n (f+1) listed a:=by
 intro f
 induction f with
 |zero =>
  intro listed a inv _ hr hy H;have hun:=(mem_ready.1 hr).1;refine⟨fun h=>(by rw[h] at hr;cases hr),fun j hj=>?_⟩;have hjn:j<n:=by
   rcases Nat.lt_or_ge j n with h | h
   ·exact h
   ·exact absurd hj (hlt listed inv i hin hun j h)
  refine⟨hjn,?_⟩
  by_cases hji:j=i
  ·subst hji;exact hy.ivOp hi H
  ·have:=hdone _ _ H j (ready_mono hj hji)
   omega
 |succ f ih =>
  intro listed a inv hfree hr hy H;have hun:=(mem_ready.1 hr).1;refine⟨fun h=>(by rw[h] at hr;cases hr),fun j hj=>?_⟩;have hjn:j<n:=by
   rcases Nat.lt_or_ge j n with h | h
   ·exact h
   ·exact absurd hj (hlt listed inv i hin hun j h)
  refine⟨hjn,?_⟩
  by_cases hji:j=i
  ·subst hji;exact hy.ivOp hi H
  ·have h1:=(H.2 j (ready_mono hj hji)).2
   obtain⟨hjun,oj,hoj,hall⟩:=mem_ready.1 hj;have hnot:∀e∈oj.after,Region.binds md e=true→e.on≠i:=fun e he hb heq=>by
    have h1:=hall e he hb;rw[heq,getD_both hun] at h1
    cases h1
   have h2:=ivOp_put hoj (hfree j oj hoj hji hjun hnot) (fun cs b=>hsel i oi cs b hi) (fun cs b=>hsel j oj cs b hoj) hy h1;have hfree':∀k ok,ops[k]?=some ok→k≠i→(listed.setIfInBounds j true).getD k true=false →
     (∀e∈ok.after,Region.binds md e=true→e.on≠i)→oi.apart ops ok=true:=fun k ok hk hki hun hno=>by
    refine hfree k ok hk hki ?_ hno
    by_cases hjk:j=k
    ·subst hjk;exact hjun
    ·rw[getD_set_ne true hjk] at hun;exact hun
   refine ivOp_mono (fun a' h3=>ih (listed.setIfInBounds j true) a' (inv.set hj hjn) hfree' (ready_mono hr (Ne.symm hji)) h3.1 ?_) h2;rw[Array.setIfInBounds_comm _ _ hji];exact h3.2
theorem wpAnyI_lex{n g:Nat}{Lq:Act→Prop}(hsel:Region.noSelect ops=true)
  (hlt:∀listed,HeadInv md ops n listed→∀i,i<n→listed.getD i true=false→∀t,n≤t→t∉Region.ready md ops listed) :
  ∀(l:List Oper)(k:Nat) (listed:Array Bool) (a:Act),(∀j,j<l.length→l[j]?=ops[k+j]?)→k+l.length=n→HeadInv md ops n listed →
  Region.lexHead md ops g l.length k listed=true→wpInv P ops I Lq l a →
  wpAnyI P md ops I (fun listed' a'=>Region.seqB md ops g n listed'=true∧Lq a') n l.length listed a
 |[],k,listed,a,_,hk,_,hB,h=>by
  have:k=n:=by simpa using hk
  subst this;exact⟨by simpa[Region.lexHead] using hB,h⟩
 |o::l,k,listed,a,hl,hk,inv,hB,h=>by
  have h0:ops[k]?=some o:=by simpa using (hl 0 (by simp)).symm
  simp only[List.length_cons,Region.lexHead,Bool.and_eq_true] at hB;obtain⟨⟨hr,hf⟩,hB'⟩:=hB;have hkn:k<n:=by simp only[List.length_cons] at hk;omega
  have hr':k∈Region.ready md ops listed:=by simpa using hr
  have hst:ivOp P ops I k (wpInv P ops I Lq l) a:=by unfold ivOp;simp only[h0];exact h
  obtain⟨v,hy,hK⟩:=yieldsI_of_ivOp h0 hst;exact wpAnyI_first h0 (Region.noSelect_spec hsel) hlt hkn (fun listed' a' hL=>seqB_ready hL.1) l.length listed a inv (Region.free_spec h0 hf) hr' hy
   (wpAnyI_lex hsel hlt l (k+1) _ _ (fun j hj=>by have:=hl (j+1) (by simp;omega);simpa[Nat.add_assoc,Nat.add_comm 1 j] using this) (by simp only[List.length_cons] at hk;omega) (inv.set hr' hkn) hB' hK)
def lexInvB(ops:Array Oper)(n:Nat):Bool :=
 Region.noSelect ops&&(decide (n=ops.size)||(decide (n<ops.size)&&Region.sinkB .any ops n&&Region.chainB .any ops n))&&Region.lexHead .any ops (ops.size - n) n 0 (Array.replicate ops.size false)
theorem wp_region_inv{id:Nat}{Q:Exit→Act→World→Prop}{a:Act}{w:World}{l:List Oper}(n:Nat)(I:World→Prop)(hm:P.follows .mixedOrders=true)(hB:lexInvB l.toArray n=true)
  (hd:I {w with drawn:=w.drawn+1})
  (h:wpInv P l.toArray I (fun a'=>∀w',I w'→wpList P l.toArray Q (l.drop n) a' w') (l.take n) a):(Code.region id l.toArray true).wp P Q a w:=by
 simp only[lexInvB,Bool.and_eq_true,Bool.or_eq_true,decide_eq_true_eq] at hB;obtain⟨⟨hsel,hn⟩,hlex⟩:=hB;have hn':n≤l.length:=by
  rcases hn with hn | ⟨⟨hn,_⟩,_⟩
  ·simpa using Nat.le_of_eq hn
  ·have:n<l.length:=by simpa using hn
   omega
 have htl:(l.take n).length=n:=by simp;omega
 have hdl:(l.drop n).length=l.toArray.size - n:=by simp
 have inv0:HeadInv .any l.toArray n (Array.replicate l.toArray.size false) :=
  ⟨by simp,fun j oj _ hl=>(by rw[getD_replicate_false] at hl;cases hl),fun t _ ht=>getD_in (by simpa using ht) (getD_replicate_false _ _)⟩
 have hlt:∀listed,HeadInv .any l.toArray n listed→∀i,i<n→listed.getD i true=false→∀t,n≤t→t∉Region.ready .any l.toArray listed:=by
  intro listed inv i hi hun t ht hr;rcases hn with hn | ⟨⟨hn,hs⟩,hc⟩
  ·obtain⟨_,ot,hot,_⟩:=mem_ready.1 hr
   have:=(Array.getElem?_eq_some_iff.1 hot).1;omega
  ·exact tail_waits hs hc hn inv _ i rfl hi hun t ht hr
 have H:=wpAnyI_lex (md:=.any) (g:=l.toArray.size - n) hsel hlt (l.take n) 0 _ a (fun j hj=>by
  have hj':j<n:=by rw[htl] at hj;exact hj
  simp[hj']) (by simpa using htl) inv0 (by rw[htl];exact hlex) h
 refine wp_region_any hm ?_
 have:=wpAny_of_inv (Q':=Q) (g:=l.toArray.size - n) (fun listed a' w' hI hL=>by
  have:=wpAny_of_seq (md:=.any) (Q':=Q) (l.drop n) n listed a' w' (fun j=>by simp[List.getElem?_drop]) (by rw[hdl];exact hL.1) (hL.2 w' hI)
  rwa [hdl] at this) _ _ _ _ hd H
 rw[htl,show n+(l.toArray.size - n)=l.toArray.size by omega] at this;exact this
theorem wpInv_nil{Q:Act→Prop}{a:Act}(h:Q a):wpInv P ops I Q [] a:=h
theorem wpInv_step{Q:Act→Prop}{a:Act}{o:Oper}{rest:List Oper}
  (h:∀K:Act→Prop,(∀a,wpInv P ops I Q rest a→K a)→if Region.wanted o (yielded ops a.tmps) then ∃v,OpInv P I o a v∧K (a.put o.dst v) else K (a.put o.dst undef)):wpInv P ops I Q (o::rest) a :=
 h _ (fun _ h=>h)
end
end Inv
def kv(l:List Nat):Array Value:=(l.map fun (n:Nat)=>Value.int .u8 (n:Int)).toArray
theorem zAF(l:List Nat):(kv l).size=l.length:=by simp[kv]
theorem zFX(l:List Nat)(i:Nat)(h:i<l.length):(kv l)[i]?=some (.int .u8 (l.getD i 0:Nat)):=by
 simp[kv,h]
section
variable {P:Program}
theorem zIL(w:World)(elem:TypeId)(he:P.underlying elem=some (.int .u8))(a:List Nat)(i:Nat)(hi:i<a.length) :
  (part elem (kv a) i).run P w=.ok (.int .u8 (a.getD i 0:Nat)) w:=by
 have hg:(isAgg elem).run P w=.ok false w:=by simp[isAgg,run_underlying he]
 simp[part,Sem.run_bind,hg,zFX a i hi]
theorem loop_eq(w:World)(d:Nat)(elem:TypeId)(he:P.underlying elem=some (.int .u8))(a b:List Nat)(hl:a.length=b.length):∀(n k:Nat),k+n=a.length →
  (forIn (m:=Sem) (List.range' k n) ((none,()):Option Bool×Unit) fun i _=>do
   let x ←part elem (kv a) (i*1)
   let y ←part elem (kv b) (i*1)
   let r ←Op.equalIn (d+1) elem x y
   if (!r)=true then pure (ForInStep.done (some false,())) else pure (ForInStep.yield (none,()))).run P w
  = .ok (if a.drop k=b.drop k then (none,()) else (some false,())) w
 |0,k,hk=>by
  have h1:a.drop k=[]:=List.drop_eq_nil_of_le (by omega);have h2:b.drop k=[]:=List.drop_eq_nil_of_le (by omega);simp[h1,h2]
 |n+1,k,hk=>by
  have ha:a.drop k=a.getD k 0::a.drop (k+1):=by
   rw[List.drop_eq_getElem_cons (by omega),List.getD_eq_getElem?_getD,List.getElem?_eq_getElem (by omega)];rfl
  have hb:b.drop k=b.getD k 0::b.drop (k+1):=by
   rw[List.drop_eq_getElem_cons (by omega),List.getD_eq_getElem?_getD,List.getElem?_eq_getElem (by omega)];rfl
  simp only[List.range'_succ,List.forIn_cons,Nat.mul_one,Sem.run_bind,zIL w elem he a k (by omega),zIL w elem he b k (by omega),Result.andThen_ok,run_equalIn_int w d elem .u8 .u8 _ _ he];have ih:=loop_eq w d elem he a b hl n (k+1) (by omega);simp only[Nat.mul_one] at ih
  by_cases hx:a.getD k 0=b.getD k 0
  ·have hx':((a.getD k 0:Nat):Int)==((b.getD k 0:Nat):Int):=by rw[hx];simp
   simp only[hx',Bool.not_true,Bool.false_eq_true,if_false,Sem.run_pure,Result.andThen_ok];rw[ih,ha,hb];simp only[List.cons.injEq,hx,true_and]
  ·have hx':(((a.getD k 0:Nat):Int)==((b.getD k 0:Nat):Int))=false:=by
    rw[beq_eq_false_iff_ne];omega
   simp only[hx',Bool.not_false,if_true,Sem.run_pure,Result.andThen_ok];rw[ha,hb];simp only[List.cons.injEq,hx,false_and,if_false]
theorem zET(w:World)(d:Nat)(t elem:TypeId)(len:Nat)(ht:P.underlying t=some (.array len elem))(he:P.underlying elem=some (.int .u8))(hs:(P.info? elem).map (·.size)=some 1)
  (a b:List Nat) (la:a.length=len) (lb:b.length=len):(Op.equalIn (d+2) t (.agg (kv a)) (.agg (kv b))).run P w=.ok (decide (a=b)) w:=by
 cases hq:P.info? elem with
 |none=>simp[hq] at hs
 |some i =>
  have hz:i.size=1:=by simpa[hq] using hs
  have hsz:(sizeOf elem).run P w=.ok 1 w:=by simp[sizeOf,typeInfo,hq,hz]
  have hl:=loop_eq (P:=P) w d elem he a b (by omega) len 0 (by omega);rw[Op.equalIn];simp only[Sem.run_bind,run_underlying ht,Result.andThen_ok,hsz,Std.Legacy.Range.forIn_eq_forIn_range',Std.Legacy.Range.size];simp only[Nat.sub_zero,Nat.add_sub_cancel,Nat.div_one] at hl ⊢;rw[hl];simp only[List.drop_zero]
  by_cases h:a=b<;>simp[h]
end
structure St (B:Nat)(w0:World)(L:List (Nat×Array Value×TypeId))(w:World):Prop where
 below:Below B w0 w
 size:B≤w.heap.size
 rows:∀p∈L,B≤p.1∧w.heap[p.1]?=some (.cells p.2.1 p.2.2 (0,0))
 nodup:(L.map (·.1)).Nodup
section
variable {B:Nat} {w0 w:World} {L:List (Nat×Array Value×TypeId)}
theorem zAG{w:World}{b:Nat}{o:Obj}(h:w.heap[b]?=some o):b<w.heap.size:=(Array.getElem?_eq_some_iff.1 h).1
theorem St.init(w:World):St w.heap.size w [] w:=⟨Below.refl _ _,Nat.le_refl _,fun _ h=>by simp at h,by simp⟩
theorem St.at{i b:Nat}{cs:Array Value}{t:TypeId}(st:St B w0 L w)(h:L[i]?=some (b,cs,t)):w.heap[b]?=some (.cells cs t (0,0)) :=
 (st.rows (b,cs,t) (List.mem_of_getElem? h)).2
theorem St.above{i b:Nat}{cs:Array Value}{t:TypeId}(st:St B w0 L w)(h:L[i]?=some (b,cs,t)):B≤b :=
 (st.rows (b,cs,t) (List.mem_of_getElem? h)).1
theorem St.cell{i b:Nat}{cs:Array Value}{t:TypeId}(st:St B w0 L w)(h:L[i]?=some (b,cs,t))(j:Nat):w.cell? ⟨b,j,none⟩=cs[j]?:=by
 simp[World.cell?,st.at h]
theorem St.free{i b:Nat}{cs:Array Value}{t:TypeId}(st:St B w0 L w)(h:L[i]?=some (b,cs,t))(j:Nat):w.frozen? ⟨b,j,none⟩=false:=by
 simp[World.frozen?,st.at h]
theorem St.new(st:St B w0 L w)(cs:Array Value)(t:TypeId):St B w0 ((w.heap.size,cs,t)::L) (w.alloc (.cells cs t)):=by
 refine⟨st.below.alloc st.size _,?_,?_,?_⟩
 ·have:=st.size
  show B≤(w.heap.push _).size
  rw[Array.size_push];omega
 ·intro p hp
  rcases List.mem_cons.1 hp with rfl | hp
  ·exact⟨st.size,heap_alloc_new _ _⟩
  ·have h:=st.rows p hp
   exact⟨h.1,by rw[heap_alloc_old (h:=zAG h.2)];exact h.2⟩
 ·rw[List.map_cons,List.nodup_cons]
  refine⟨fun hm=>?_,st.nodup⟩;obtain⟨p,hp,he⟩:=List.mem_map.1 hm;have h:=zAG (st.rows p hp).2;simp only at he;omega
theorem St.drew(st:St B w0 L w):St B w0 L w.drew:=⟨st.below.drew,st.size,st.rows,st.nodup⟩
theorem St.call{w':World}(st:St B w0 L w)(hb:Below w.heap.size w w'):St B w0 L w' :=
 ⟨st.below.trans (hb.mono st.size),Nat.le_trans st.size hb.size,fun p hp=>⟨(st.rows p hp).1,by rw[hb.block _ (zAG (st.rows p hp).2)];exact(st.rows p hp).2⟩,st.nodup⟩
theorem St.callNew{w':World}{g:Nat}{cs:Array Value}{t:TypeId}(st:St B w0 L w)(hb:Below w.heap.size w w')(hg:w.heap.size≤g)(h:w'.heap[g]?=some (.cells cs t (0,0))):St B w0 ((g,cs,t)::L) w':=by
 have st':=st.call hb;refine⟨st'.below,st'.size,fun p hp=>?_,?_⟩
 ·rcases List.mem_cons.1 hp with rfl | hp
  ·exact⟨Nat.le_trans st.size hg,h⟩
  ·exact st'.rows p hp
 ·rw[List.map_cons,List.nodup_cons]
  refine⟨fun hm=>?_,st.nodup⟩;obtain⟨p,hp,he⟩:=List.mem_map.1 hm;have h:=zAG (st.rows p hp).2;simp only at he;omega
theorem St.drop{p:Nat×Array Value×TypeId}(st:St B w0 (p::L) w):St B w0 L w :=
 ⟨st.below,st.size,fun q hq=>st.rows q (List.mem_cons_of_mem _ hq),by have:=st.nodup;simp only[List.map_cons,List.nodup_cons] at this;exact this.2⟩
theorem St.put{i b:Nat}{cs:Array Value}{t:TypeId}{L':List (Nat×Array Value×TypeId)}(st:St B w0 L w)(h:L[i]?=some (b,cs,t))(cs':Array Value)(hL:L.set i (b,cs',t)=L') :
  St B w0 L' (w.setRow b cs'):=by
 subst hL;have hil:i<L.length:=(List.getElem?_eq_some_iff.1 h).1;have hv:L[i]=(b,cs,t):=(List.getElem?_eq_some_iff.1 h).2;have hk:(L.set i (b,cs',t)).map (·.1)=L.map (·.1):=by
  rw[List.map_set];apply List.ext_getElem?;intro j;rw[List.getElem?_set]
  split
  ·rename_i hj
   subst hj;simp[hil,hv]
  ·rfl
 refine⟨st.below.trans ⟨rfl,rfl,rfl,by simp,fun k hk=>setRow_other _ _ _ _ (by have:=st.above h;omega)⟩,by simpa using st.size,?_,by rw[hk];exact st.nodup⟩;intro p hp;obtain⟨j,hj⟩:=List.getElem?_of_mem hp;rw[List.getElem?_set] at hj
 split at hj
 ·rename_i hij
  injection hj with hj;subst hj;exact⟨st.above h,setRow_heap _ _ _ _ _ _ (st.at h)⟩
 ·rename_i hij
  have hp':=st.rows p (List.mem_of_getElem? hj);refine⟨hp'.1,?_⟩;rw[setRow_other]
  ·exact hp'.2
  ·intro he
   apply hij;have hjl:j<L.length:=(List.getElem?_eq_some_iff.1 hj).1;have hjv:L[j]=p:=(List.getElem?_eq_some_iff.1 hj).2;have hn:=st.nodup;refine(List.getElem_inj (xs:=L.map (·.1)) (h₀:=by simpa using hil) (h₁:=by simpa using hjl) hn).1 ?_;simp only[List.getElem_map,hv,hjv];exact he.symm
theorem St.set{i b:Nat}{cs:Array Value}{t:TypeId}{L':List (Nat×Array Value×TypeId)}(st:St B w0 L w)(h:L[i]?=some (b,cs,t))(j:Nat)(v:Value)(hL:L.set i (b,cs.setIfInBounds j v,t)=L') :
  St B w0 L' (w.setCell ⟨b,j,none⟩ v):=by
 rw[setCell_eq_setRow w b j cs t (0,0) v (st.at h)];exact st.put h _ hL
end
section
variable {P:Program} {ops:Array Oper} {rest:List Oper} {o:Oper} {a:Act} {w w0:World} {Q:Exit→Act→World→Prop} {B:Nat} {L:List (Nat×Array Value×TypeId)}
def zGJ(d:TypeDesc):Bool:=match d with | .struct _ | .array _ _=>true | _=>false
theorem zCP(hw:Region.wanted o (yielded ops a.tmps)=true)
  (h:∀K:Act→World→Prop,(∀a w,wpList P ops Q rest a w→K a w)→o.wp P a w K Q):wpList P ops Q (o::rest) a w :=
 wpList_step fun K hK=>by rw[if_pos hw];exact h K hK
theorem zCO(st:St B w0 L w)(hgd:o.guard=none)(ty:TypeId)(x:Operand)(ho:o.op=.box ty x)(v:Value)(hx:a.eval x=v)
  (h:∀b w1,St B w0 ((b,v.cells,ty)::L) w1→wpList P ops Q rest (a.put o.dst (.pointer (some ⟨b,0,none⟩))) w1):wpList P ops Q (o::rest) a w:=by
 refine wpList_plain hgd fun K hK=>?_
 unfold Oper.wp execOp;simp only[ho,hx,Instr.box,newVar,newRow,Sem.run_bind,run_newObj,Sem.run_pure,Result.andThen_ok,Oper.upon];exact hK _ _ (h _ _ (st.new v.cells ty))
theorem zCS(st:St B w0 L w)(hgd:o.guard=none)(ty:TypeId)(ho:o.op=.alloc ty)(z:Value)(hz:(P.info? ty).bind (·.zero)=some z)
  (h:∀b w1,St B w0 ((b,z.cells,ty)::L) w1→wpList P ops Q rest (a.put o.dst (.pointer (some ⟨b,0,none⟩))) w1):wpList P ops Q (o::rest) a w:=by
 refine wpList_plain hgd fun K hK=>?_
 unfold Oper.wp execOp
 cases hq:P.info? ty with
 |none=>simp[hq] at hz
 |some i =>
  have hi:i.zero=some z:=by simpa[hq] using hz
  simp only[ho,Instr.alloc,zeroValue,typeInfo,run_program,hq,hi,newVar,newRow,Sem.run_bind,run_newObj,Sem.run_pure,Result.andThen_ok,Oper.upon];exact hK _ _ (h _ _ (st.new z.cells ty))
theorem zAD(st:St B w0 L w)(hgd:o.guard=none)(ty:TypeId)(x:Operand)(ho:o.op=.box ty x)(cs:Array Value)(hx:a.eval x=.agg cs)
  (h:∀b w1,St B w0 ((b,cs,ty)::L) w1→wpList P ops Q rest (a.put o.dst (.pointer (some ⟨b,0,none⟩))) w1):wpList P ops Q (o::rest) a w :=
 zCO st hgd ty x ho _ hx h
theorem zAE(st:St B w0 L w)(hgd:o.guard=none)(ty:TypeId)(ho:o.op=.alloc ty)(cs:Array Value)(hz:(P.info? ty).bind (·.zero)=some (.agg cs))
  (h:∀b w1,St B w0 ((b,cs,ty)::L) w1→wpList P ops Q rest (a.put o.dst (.pointer (some ⟨b,0,none⟩))) w1):wpList P ops Q (o::rest) a w :=
 zCS st hgd ty ho _ hz h
theorem zAM(hgd:Region.wanted o (yielded ops a.tmps)=true)(t:TypeId)(parts:Array (Nat×Operand))(ho:o.op=.build t parts)(ps:List (Nat×Value))(hp:(parts.map fun (i,x)=>(i,a.eval x)).toList=ps)(cs:Array Value)(hf:P.built t ps=some cs)
  (h:wpList P ops Q rest (a.put o.dst (.agg cs)) w):wpList P ops Q (o::rest) a w:=by
 refine zCP hgd fun K hK=>?_
 unfold Oper.wp execOp;subst hp;simp only[ho,Sem.run_bind,run_build w t _ cs hf,Result.andThen_ok,Sem.run_pure,Oper.upon];exact hK _ _ h
theorem zIX(st:St B w0 L w)(hgd:o.guard=none)(t:TypeId)(l c:Operand)(ho:o.op=.makeSlice t l c)(e:TypeId)(z:Value)(size bytes:Nat)(ht:P.underlying t=some (.slice e))
  (hz:(P.info? e).bind (·.zero)=some z) (hsz:(P.info? e).map (·.size)=some size) (hby:(P.info? e).map (·.bytes)=some bytes) (kl kc:IntKind) (l' c':Int) (hl:a.eval l=.int kl l') (hc:a.eval c=.int kc c')
  (h0:0≤l') (hlc:l'≤c') (hb:(bytes:Int)*c'≤281474976710656) (h63:c'≤9223372036854775807)
  (h:∀b w1,St B w0 ((b,madeCells z.cells (c'.toNat*size),e)::L) w1→wpList P ops Q rest (a.put o.dst (.slice (some ⟨b,0,none⟩) l'.toNat c'.toNat)) w1):wpList P ops Q (o::rest) a w:=by
 refine wpList_plain hgd fun K hK=>?_
 cases hq:P.info? e with
 |none=>simp[hq] at hz
 |some i =>
  have hi:i.zero=some z:=by simpa[hq] using hz
  have hs:i.size=size:=by simpa[hq] using hsz
  have hbb:i.bytes=bytes:=by simpa[hq] using hby
  subst hs;subst hbb;unfold Oper.wp execOp;simp only[ho,hl,hc,Sem.run_bind,run_make w t e i z ht hq hi kl kc l' c' h0 hlc hb h63,Sem.run_pure,Result.andThen_ok,Oper.upon];exact hK _ _ (h _ _ (st.new _ e))
theorem zDD(w:World)(g off n:Nat)(t ty:TypeId)(cs:Array Value)(fr:Nat×Nat)(d:TypeDesc)(hg:w.heap[g]?=some (.cells cs t fr))
  (hu:P.underlying ty=some d) (hd:zGJ d=true) (hi:(P.info? ty).map (·.size)=some n) (hn:off+n≤cs.size) :
  (loadVar ty ⟨g,off,none⟩).run P w=.ok (.agg (cs.extract off (off+n))) w:=by
 have hlen:(cs.extract off (off+n)).size=n:=by rw[Array.size_extract];omega
 have hl:(loadCells ⟨g,off,none⟩ (cs.extract off (off+n)).toList.length).run P w=.ok (cs.extract off (off+n)).toList.toArray w :=
  run_loadCells_list (P:=P) w ⟨g,off,none⟩ (cs.extract off (off+n)).toList (fun j v hv=>by
   have hadd:(⟨g,off,none⟩:Addr).add j=⟨g,off+j,none⟩:=by unfold Addr.add;split<;>simp_all
   rw[hadd,cell_of_row w g (off+j) cs t fr hg];have hv':(cs.extract off (off+n))[j]?=some v:=by rw[←Array.getElem?_toList];exact hv
   have hj:j<n:=by
    have:=(Array.getElem?_eq_some_iff.1 hv').1;omega
   rw[Array.getElem?_extract,if_pos (by omega)] at hv';exact hv')
 cases hq:P.info? ty with
 |none=>simp[hq] at hi
 |some i =>
  have hs:i.size=n:=by simpa[hq] using hi
  have hagg:(isAgg ty).run P w=.ok true w:=by
   unfold isAgg;rw[Sem.run_bind,run_underlying hu w]
   cases d<;>simp_all [zGJ]
  rw[Array.length_toList,Array.toArray_toList,hlen] at hl;simp[loadVar,Sem.run_bind,hagg,sizeOf,typeInfo,hq,hs,hl]
theorem zHV(w:World)(g:Nat)(t ty:TypeId)(cs:Array Value)(fr:Nat×Nat)(d:TypeDesc)(hg:w.heap[g]?=some (.cells cs t fr))
  (hu:P.underlying ty=some d) (hd:zGJ d=true) (hi:(P.info? ty).map (·.size)=some cs.size) :
  (Instr.loadAt ty (.pointer (some ⟨g,0,none⟩))).run P w=.ok (.agg cs) w:=by
 have h:=zDD w g 0 cs.size t ty cs fr d hg hu hd hi (by omega);rw[Nat.zero_add,Array.extract_size] at h;simp only[Instr.loadAt,Instr.sureAddr,Sem.run_bind,Sem.run_pure,Result.andThen_ok,h]
theorem zAC(hgd:Region.wanted o (yielded ops a.tmps)=true)(ty:TypeId)(x:Operand)(ho:o.op=.load ty x)
  (g:Nat) (hx:a.eval x=.pointer (some ⟨g,0,none⟩)) (d:TypeDesc) (hu:P.underlying ty=some d) (hd:zGJ d=true) (cs:Array Value) (t:TypeId)
  (hg:w.heap[g]?=some (.cells cs t (0,0))) (hi:(P.info? ty).map (·.size)=some cs.size)
  (h:wpList P ops Q rest (a.put o.dst (.agg cs)) w):wpList P ops Q (o::rest) a w:=by
 refine zCP hgd fun K hK=>?_
 unfold Oper.wp execOp;simp only[ho,hx,Sem.run_bind,zHV w g t ty cs (0,0) d hg hu hd hi,Result.andThen_ok,Sem.run_pure,Oper.upon];exact hK _ _ h
theorem zIE(w:World)(g:Nat)(t ty:TypeId)(old:Array Value)(v:Value)(hg:w.heap[g]?=some (.cells old t (0,0)))
  (hi:(P.info? ty).map (·.size)=some v.cells.size) (ho:v.cells.size=old.size) (h1:∀u∈v.cells.toList,u.oneCell'=true) :
  (storeVar ty ⟨g,0,none⟩ v).run P w=.ok () (w.setRow g v.cells):=by
 cases hq:P.info? ty with
 |none=>simp[hq] at hi
 |some i =>
  have hs:i.size=v.cells.size:=by simpa[hq] using hi
  have hst:=run_storeCells_at P g 0 t v.cells.toList 0 old w hg (by simp;omega) h1;have e:(old.toList.take (0+0)++v.cells.toList++old.toList.drop (0+0+v.cells.toList.length)).toArray=v.cells:=by
   rw[List.drop_eq_nil_of_le (by simp;omega)];simp
  rw[e] at hst;simp[storeVar,Sem.run_bind,sizeOf,typeInfo,hq,hs,hst]
theorem zAA(st:St B w0 L w)(hgd:o.guard=none)(ty:TypeId)(x y:Operand)(ho:o.op=.store ty x y)
  (i:Nat) (b:Nat) (hx:a.eval x=.pointer (some ⟨b,0,none⟩)) (v:Value) (hy:a.eval y=v) (old:Array Value) (t:TypeId) (hL:L[i]?=some (b,old,t))
  (hi:(P.info? ty).map (·.size)=some v.cells.size) (hs:v.cells.size=old.size) (h1:∀u∈v.cells.toList,u.oneCell'=true)
  (L':List (Nat×Array Value×TypeId)) (hL':L.set i (b,v.cells,t)=L')
  (h:∀w1,St B w0 L' w1→wpList P ops Q rest (a.put o.dst undef) w1):wpList P ops Q (o::rest) a w:=by
 refine wpList_plain hgd fun K hK=>?_
 unfold Oper.wp execOp;simp only[ho,hx,hy,Instr.storeAt,Instr.sureAddr,Sem.run_bind,Sem.run_pure,Result.andThen_ok,zIE w b t ty old v (st.at hL) hi hs h1,Oper.upon];exact hK _ _ (h _ (st.put hL _ hL'))
theorem zDG(st:St B w0 L w)(hgd:o.guard=none)(ty:TypeId)(x y:Operand)(ho:o.op=.store ty x y)
  (i:Nat) (b j:Nat) (hx:a.eval x=.pointer (some ⟨b,j,none⟩)) (v:Value) (hy:a.eval y=v) (old:Array Value) (t:TypeId) (hL:L[i]?=some (b,old,t))
  (hi:(P.info? ty).map (·.size)=some 1) (hv:v.cells=#[v]) (hs:j<old.size) (h1:v.oneCell'=true)
  (cs':Array Value) (hcs:old.setIfInBounds j v=cs') (L':List (Nat×Array Value×TypeId)) (hL':L.set i (b,cs',t)=L')
  (h:∀w1,St B w0 L' w1→wpList P ops Q rest (a.put o.dst undef) w1):wpList P ops Q (o::rest) a w:=by
 refine wpList_plain hgd fun K hK=>?_
 unfold Oper.wp execOp
 cases hq:P.info? ty with
 |none=>simp[hq] at hi
 |some inf =>
  have hsz:inf.size=1:=by simpa[hq] using hi
  have hst:(storeCells ⟨b,j,none⟩ [v]).run P w=.ok () (w.setCell ⟨b,j,none⟩ v):=by
   have hcell:w.cell? ⟨b,j,none⟩=some old[j]:=by rw[st.cell hL j];simp[hs]
   have hadd:(⟨b,j,none⟩:Addr).add 0=⟨b,j,none⟩:=by simp[Addr.add]
   simp only[storeCells,Sem.run_bind,hadd];rw[run_store P w _ v _ h1,hcell];simp[st.free hL j]
  have hsv:(storeVar ty ⟨b,j,none⟩ v).run P w=.ok () (w.setCell ⟨b,j,none⟩ v):=by
   simp[storeVar,Sem.run_bind,sizeOf,typeInfo,hq,hsz,hv,hst]
  simp only[ho,hx,hy,Instr.storeAt,Instr.sureAddr,Sem.run_bind,Sem.run_pure,Result.andThen_ok,hsv,Oper.upon];subst hcs;exact hK _ _ (h _ (st.set hL j v hL'))
def zAH:List Nat:=List.replicate 32 0
variable {I:World→Prop}
theorem OpInv_loadR(ty:TypeId)(x:Operand)(ho:o.op=.load ty x)
  (g:Nat) (hx:a.eval x=.pointer (some ⟨g,0,none⟩)) (d:TypeDesc) (hu:P.underlying ty=some d) (hd:zGJ d=true) (cs:Array Value) (t:TypeId)
  (hg:∀w,I w→w.heap[g]?=some (.cells cs t (0,0))) (hi:(P.info? ty).map (·.size)=some cs.size):Inv.OpInv P I o a (.agg cs):=by
 intro w hw;unfold execOp;simp only[ho,hx,Sem.run_bind,zHV w g t ty cs (0,0) d (hg w hw) hu hd hi,Result.andThen_ok,Sem.run_pure,Inv.ResInv];exact⟨trivial,hw⟩
theorem OpInv_of_run{v:Value}(h:∀w,I w→(execOp a.eval o).run P w=.ok (.value v) w):Inv.OpInv P I o a v:=by
 intro w hw;rw[h w hw];exact⟨rfl,hw⟩
theorem zDM{v:Value}(f:FuncId)(args:Array Value)(h:∀w,I w→(execOp a.eval o).run P w=.ok (.enter f args) w)
  (hc:∀w,I w→Calls P f args w (fun e w'=>e=.returned v∧I w')):Inv.OpInv P I o a v:=by
 intro w hw;rw[h w hw];exact hc w hw
theorem zBX{fn:Func}{R:Ending→World→Prop}{p:Tmp}{ty:TypeId}(hr:fn.results=#[.cell p ty])(g:Nat)(cs:Array Value)(t:TypeId)(d:TypeDesc)
  (hp:a.tmps.getD p undef=.pointer (some ⟨g,0,none⟩)) (hg:w.heap[g]?=some (.cells cs t (0,0)))
  (hu:P.underlying ty=some d) (hd:zGJ d=true) (hi:(P.info? ty).map (·.size)=some cs.size) (hdf:a.defers=[]) (hR:R (.returned (.agg cs)) w):bodyPost P fn R .ret a w:=by
 have h:=zDD (P:=P) w g 0 cs.size t ty cs (0,0) d hg hu hd hi (by omega);rw[Nat.zero_add,Array.extract_size] at h;have hp':a.tmps[p]?.getD undef=.pointer (some ⟨g,0,none⟩):=by simpa using hp
 exact⟨hdf,_,by simp[results,hr,hp',asAddr,h],hR⟩
theorem zBH{id:Nat}{l:List Oper}(n:Nat)(st:St B w0 L w)(hm:P.follows .mixedOrders=true)(hB:Inv.lexInvB l.toArray n=true)
  (h:∀I:World→Prop,(∀w,I w→St B w0 L w)→(∀w,St B w0 L w→I w)→Inv.wpInv P l.toArray I (fun a'=>∀w',St B w0 L w'→wpList P l.toArray Q (l.drop n) a' w') (l.take n) a):(Code.region id l.toArray true).wp P Q a w :=
 Inv.wp_region_inv n (St B w0 L) hm hB st.drew (h _ (fun _ h=>h) (fun _ h=>h))
theorem OpInv_contract{I:World→Prop}{v:Value}(hI:∀w,I w→St B w0 L w)(hI':∀w,St B w0 L w→I w)(f:FuncId)(args:Array Value)(h:∀w,I w→(execOp a.eval o).run P w=.ok (.enter f args) w)
  (hc:∀w,St B w0 L w→Calls P f args w (fun e w'=>e=.returned v∧Below w.heap.size w w')):Inv.OpInv P I o a v :=
 zDM f args h fun w hw=>(hc w (hI w hw)).mono fun _ w' ⟨he,hb⟩=>⟨he,hI' w' ((hI w hw).call hb)⟩
theorem zAL{I:World→Prop}{F:Value→Prop}{v:Value}(h:∀w,I w→(execOp a.eval o).run P w=.ok (.value v) w)(hF:F v):∃v,Inv.OpInv P I o a v∧F v :=
 ⟨v,OpInv_of_run h,hF⟩
theorem zDP{I:World→Prop}{F:Value→Prop}(ty:TypeId)(x:Operand)(ho:o.op=.load ty x)
  (g:Nat) (hx:a.eval x=.pointer (some ⟨g,0,none⟩)) (d:TypeDesc) (hu:P.underlying ty=some d) (hd:zGJ d=true) (cs:Array Value) (t:TypeId)
  (hg:∀w,I w→w.heap[g]?=some (.cells cs t (0,0))) (hi:(P.info? ty).map (·.size)=some cs.size) (hF:F (.agg cs)):∃v,Inv.OpInv P I o a v∧F v :=
 ⟨_,OpInv_loadR ty x ho g hx d hu hd cs t hg hi,hF⟩
theorem zDF{I:World→Prop}{F:Value→Prop}{v:Value}(hI:∀w,I w→St B w0 L w)(hI':∀w,St B w0 L w→I w)(f:FuncId)(args:Array Value)(h:∀w,I w→(execOp a.eval o).run P w=.ok (.enter f args) w)
  (hc:∀w,St B w0 L w→Calls P f args w (fun e w'=>e=.returned v∧Below w.heap.size w w')) (hF:F v):∃v,Inv.OpInv P I o a v∧F v :=
 ⟨v,OpInv_contract hI hI' f args h hc,hF⟩
end
end
section
open Go Go.RowKit
namespace Mix
section
variable {P:Program} {ops:Array Oper} {md:Region.Mode}
def noExit:Exit→Act→World→Prop:=fun _ _ _=>False
def Up(I:World→Prop):Prop:=∀w w',I w→Below w.heap.size w w'→I w'
def ResUp(P:Program)(w:World)(v:Value):Result Next→Prop
 |.ok (.value u) w'=>u=v∧Below w.heap.size w w'
 |.ok .skip w'=>undef=v∧Below w.heap.size w w'
 |.ok (.enter f args) w'=>Below w.heap.size w w'∧Calls P f args w' (fun e w''=>e=.returned v∧Below w'.heap.size w' w'')
 |_=>False
def OpUp(P:Program)(I:World→Prop)(o:Oper)(a:Act)(v:Value):Prop:=∀w,I w→ResUp P w v ((execOp a.eval o).run P w)
def YieldsU(P:Program)(ops:Array Oper)(I:World→Prop)(o:Oper)(v:Value)(a:Act):Prop :=
 (Region.wanted o (yielded ops a.tmps)=true∧OpUp P I o a v)∨(Region.wanted o (yielded ops a.tmps)=false∧v=undef)
def mxOp(P:Program)(ops:Array Oper)(i:Nat)(K:Act→World→Prop)(a:Act)(w:World):Prop :=
 match ops[i]? with
 |none=>K a w
 |some o=>if Region.wanted o (yielded ops a.tmps) then o.wp P a w K noExit else K (a.put o.dst undef) w
theorem wp_exit{o:Oper}{a:Act}{w:World}{K K':Act→World→Prop}{Q:Exit→Act→World→Prop}(h:∀a w,K a w→K' a w)(hh:o.wp P a w K noExit):o.wp P a w K' Q:=by
 unfold Oper.wp at *;generalize (execOp a.eval o).run P w=r at *
 cases r with
 |ok n w' =>
  cases n<;>simp only[Oper.upon] at hh ⊢
  case value u=>exact h _ _ hh
  case skip=>exact h _ _ hh
  case defer d=>exact h _ _ hh
  case enter f args =>
   refine hh.mono fun e w'' he=>?_
   cases e with
   |returned u=>exact h _ _ he
   |panicked c=>exact he.elim
   |outgrown=>obtain⟨_,_,hf⟩:=he;exact hf.elim
  case row row args=>exact Rows.mono hh fun u w'' he=>h _ _ he
 |halt x w' =>
  cases x<;>simp only[Oper.upon] at hh ⊢
  case panic u=>exact hh.elim
theorem zIA{i:Nat}{a:Act}{w:World}{K K':Act→World→Prop}(h:∀a w,K a w→K' a w)(hh:mxOp P ops i K a w):mxOp P ops i K' a w:=by
 unfold mxOp at *
 split
 ·exact h _ _ (by simpa[*] using hh)
 ·rename_i o ho
  simp only[ho] at hh
  split
  ·rename_i hw;simp only[hw,if_true] at hh;exact wp_exit h hh
  ·rename_i hw;simp only[hw] at hh;exact h _ _ hh
theorem wpOp_of_mxOp{i:Nat}{a:Act}{w:World}{K K':Act→World→Prop}{Q:Exit→Act→World→Prop}(h:∀a w,K a w→K' a w)(hh:mxOp P ops i K a w):wpOp P ops Q i K' a w:=by
 unfold mxOp at hh;unfold wpOp
 split
 ·rename_i ho;simp only[ho] at hh;exact h _ _ hh
 ·rename_i o ho
  simp only[ho] at hh
  split
  ·rename_i hw;simp only[hw,if_true] at hh;exact .inl (wp_exit h hh)
  ·rename_i hw;simp only[hw] at hh;exact h _ _ hh
theorem OpUp.mono{I I':World→Prop}{o:Oper}{a:Act}{v:Value}(h:OpUp P I o a v)(hI:∀w,I' w→I w):OpUp P I' o a v:=fun w hw=>h w (hI w hw)
theorem YieldsU.mono{I I':World→Prop}{o:Oper}{v:Value}{a:Act}(h:YieldsU P ops I o v a)(hI:∀w,I' w→I w):YieldsU P ops I' o v a :=
 h.imp (fun ⟨h1,h2⟩=>⟨h1,h2.mono hI⟩) id
theorem YieldsU.of_same{I:World→Prop}{o:Oper}{v:Value}{a a':Act}(hy:YieldsU P ops I o v a)(he:execOp a'.eval o=execOp a.eval o)
  (hw:Region.wanted o (yielded ops a'.tmps)=Region.wanted o (yielded ops a.tmps)):YieldsU P ops I o v a':=by
 unfold YieldsU OpUp at *;rw[he,hw];exact hy
theorem YieldsU.mxOp{I:World→Prop}{i:Nat}{o:Oper}{v:Value}{a:Act}{w:World}(hi:ops[i]?=some o)(hy:YieldsU P ops I o v a)(hI:I w){K:Act→World→Prop}
  (h:∀w',Below w.heap.size w w'→K (a.put o.dst v) w'):mxOp P ops i K a w:=by
 unfold Mix.mxOp;simp only[hi];rcases hy with ⟨hw,hv⟩ | ⟨hw,rfl⟩
 ·simp only[hw,if_true]
  have hr:=hv w hI;unfold Oper.wp;generalize (execOp a.eval o).run P w=r at *
  cases r with
  |ok n w' =>
   cases n<;>simp only[ResUp] at hr<;>simp only[Oper.upon]
   case value u=>obtain⟨rfl,h2⟩:=hr;exact h _ h2
   case skip=>obtain⟨h1,h2⟩:=hr;rw[h1];exact h _ h2
   case enter f args=>exact hr.2.mono fun e w'' ⟨he,hb⟩=>by subst he;exact h _ (hr.1.trans (hb.mono hr.1.size))
  |halt x w'=>simp only[ResUp] at hr
 ·simp only[hw,Bool.false_eq_true,if_false];exact h _ (Below.refl _ _)
theorem mxOp_put{I:World→Prop}{j:Nat}{oi oj:Oper}{v:Value}(hj:ops[j]?=some oj)(hap:oi.apart ops oj=true)
  (hsi:∀cs b,oi.op≠.select cs b) (hsj:∀cs b,oj.op≠.select cs b) {K:Act→World→Prop} {a:Act} {w:World}
  (hy:YieldsU P ops I oi v a) (h:mxOp P ops j K (a.put oi.dst v) w) :
  mxOp P ops j (fun a' w'=>YieldsU P ops I oi v a'∧K (a'.put oi.dst v) w') a w:=by
 obtain⟨h1,h2,h3⟩:=Oper.apart_spec hap;have keep:∀(a:Act),YieldsU P ops I oi v a→∀u,YieldsU P ops I oi v (a.put oj.dst u):=fun a hy u =>
  hy.of_same (execOp_put oi hsi a oj.dst u h3) (wanted_put oi a oj.dst u h3)
 have keepD:∀d,YieldsU P ops I oi v {a with defers:=d::a.defers}:=fun d=>hy.of_same rfl rfl
 unfold mxOp at *;simp only[hj] at *;rw[wanted_put oj a oi.dst v h1] at h
 split
 ·rename_i hw
  simp only[hw,if_true] at h;unfold Oper.wp at *;rw[execOp_put oj hsj a oi.dst v h1] at h;generalize (execOp a.eval oj).run P w=r at *
  cases r with
  |ok n w' =>
   cases n<;>simp only[Oper.upon] at h ⊢
   case value u=>exact⟨keep a hy u,by rw[←Act.put_comm a v u h2];exact h⟩
   case skip=>exact⟨keep a hy _,by rw[←Act.put_comm a v undef h2];exact h⟩
   case defer d =>
    refine⟨keep _ (keepD d) _,?_⟩;rw[←Act.put_comm _ v undef h2,←Act.put_defers];exact h
   case enter f args =>
    refine Calls.mono h fun e w'' he=>?_
    cases e with
    |returned u=>exact⟨keep a hy u,by rw[←Act.put_comm a v u h2];exact he⟩
    |panicked c=>exact he.elim
    |outgrown=>exact he
   case row row args=>exact Rows.mono h fun u w'' he=>⟨keep a hy u,by rw[←Act.put_comm a v u h2];exact he⟩
  |halt x w' =>
   cases x<;>simp only[Oper.upon] at h ⊢
   case panic u=>exact h
 ·rename_i hw
  simp only[hw] at h;exact⟨keep a hy _,by rw[←Act.put_comm a v undef h2];exact h⟩
def Good(P:Program)(md:Region.Mode)(ops:Array Oper)(n:Nat)(L:(World→Prop)→Array Bool→Act→Prop):Nat→(World→Prop)→Array Bool→Act→Prop
 |0,I,listed,a=>L I listed a
 |f+1,I,listed,a =>
  Region.ready md ops listed≠[]∧∀j∈Region.ready md ops listed,j<n∧∀w,I w →
   mxOp P ops j (fun a' w'=>∃I':World→Prop,Up I'∧I' w'∧(∀w,I' w→I w)∧Good P md ops n L f I' (listed.setIfInBounds j true) a') a w
theorem wpAny_of_good{n g:Nat}{L:(World→Prop)→Array Bool→Act→Prop}{Q':Exit→Act→World→Prop}(hL:∀I listed a w,I w→L I listed a→wpAny P md ops Q' g listed a w) :
  ∀(f:Nat)(I:World→Prop) (listed:Array Bool) (a:Act) (w:World),I w→Good P md ops n L f I listed a→wpAny P md ops Q' (f+g) listed a w
 |0,I,listed,a,w,hI,h=>by rw[Nat.zero_add];exact hL _ _ _ _ hI h
 |f+1,I,listed,a,w,hI,h=>by
  rw[show f+1+g=(f+g)+1 by omega];exact⟨fun h0=>absurd h0 h.1,fun i hi=>wpOp_of_mxOp (fun a' w' ⟨I',_,hw',_,h'⟩=>wpAny_of_good hL f I' _ a' w' hw' h') ((h.2 i hi).2 w hI)⟩
theorem good_first{n i:Nat}{oi:Oper}{v:Value}{L:(World→Prop)→Array Bool→Act→Prop}(hi:ops[i]?=some oi)(hsel:∀(j:Nat)(o:Oper) cs b,ops[j]?=some o→o.op≠.select cs b)
  (hlt:∀listed,HeadInv md ops n listed→∀i,i<n→listed.getD i true=false→∀t,n≤t→t∉Region.ready md ops listed) (hin:i<n)
  (hdone:∀I listed a,L I listed a→∀j∈Region.ready md ops listed,n≤j) :
  ∀(f:Nat)(I:World→Prop) (listed:Array Bool) (a:Act),Up I→HeadInv md ops n listed →
   (∀j oj,ops[j]?=some oj→j≠i→listed.getD j true=false→(∀e∈oj.after,Region.binds md e=true→e.on≠i)→oi.apart ops oj=true) →
   i∈Region.ready md ops listed→YieldsU P ops I oi v a →
   Good P md ops n L f I (listed.setIfInBounds i true) (a.put oi.dst v)→Good P md ops n L (f+1) I listed a:=by
 intro f
 induction f with
 |zero =>
  intro I listed a hup inv _ hr hy H;have hun:=(mem_ready.1 hr).1;refine⟨fun h=>(by rw[h] at hr;cases hr),fun j hj=>?_⟩;have hjn:j<n:=by
   rcases Nat.lt_or_ge j n with h | h
   ·exact h
   ·exact absurd hj (hlt listed inv i hin hun j h)
  refine⟨hjn,fun w hw=>?_⟩
  by_cases hji:j=i
  ·subst hji;exact hy.mxOp hi hw fun w' hb=>⟨I,hup,hup w w' hw hb,fun _ h=>h,H⟩
  ·have:=hdone _ _ _ H j (ready_mono hj hji)
   omega
 |succ f ih =>
  intro I listed a hup inv hfree hr hy H;have hun:=(mem_ready.1 hr).1;refine⟨fun h=>(by rw[h] at hr;cases hr),fun j hj=>?_⟩;have hjn:j<n:=by
   rcases Nat.lt_or_ge j n with h | h
   ·exact h
   ·exact absurd hj (hlt listed inv i hin hun j h)
  refine⟨hjn,fun w hw=>?_⟩
  by_cases hji:j=i
  ·subst hji;exact hy.mxOp hi hw fun w' hb=>⟨I,hup,hup w w' hw hb,fun _ h=>h,H⟩
  ·have h1:=(H.2 j (ready_mono hj hji)).2 w hw
   obtain⟨hjun,oj,hoj,hall⟩:=mem_ready.1 hj;have hnot:∀e∈oj.after,Region.binds md e=true→e.on≠i:=fun e he hb heq=>by
    have h1:=hall e he hb;rw[heq,getD_both hun] at h1
    cases h1
   have h2:=mxOp_put hoj (hfree j oj hoj hji hjun hnot) (fun cs b=>hsel i oi cs b hi) (fun cs b=>hsel j oj cs b hoj) hy h1;have hfree':∀k ok,ops[k]?=some ok→k≠i→(listed.setIfInBounds j true).getD k true=false →
     (∀e∈ok.after,Region.binds md e=true→e.on≠i)→oi.apart ops ok=true:=fun k ok hk hki hun hno=>by
    refine hfree k ok hk hki ?_ hno
    by_cases hjk:j=k
    ·subst hjk;exact hjun
    ·rw[getD_set_ne true hjk] at hun;exact hun
   refine zIA (fun a' w' ⟨h3,I',hup',hw',hsub,h4⟩=>⟨I',hup',hw',hsub,ih I' (listed.setIfInBounds j true) a' hup' (inv.set hj hjn) hfree' (ready_mono hr (Ne.symm hji)) (h3.mono hsub) ?_⟩) h2;rw[Array.setIfInBounds_comm _ _ hji];exact h4
def setAll(listed:Array Bool)(l:List Nat):Array Bool:=l.foldl (fun s i=>s.setIfInBounds i true) listed
def batchB(md:Region.Mode)(ops:Array Oper)(n:Nat):List Nat→Array Bool→Bool
 |[],_=>true
 |i::l,listed=>decide (i<n)&&(Region.ready md ops listed).contains i&&Region.free md ops listed i&&batchB md ops n l (listed.setIfInBounds i true)
def wpUp(P:Program)(ops:Array Oper)(I:World→Prop)(Q:Act→Prop):List Nat→Act→Prop
 |[],a=>Q a
 |i::l,a =>
  match ops[i]? with
  |none=>wpUp P ops I Q l a
  |some o=>if Region.wanted o (yielded ops a.tmps) then ∃v,OpUp P I o a v∧wpUp P ops I Q l (a.put o.dst v) else wpUp P ops I Q l (a.put o.dst undef)
theorem wpUp_cons{I:World→Prop}{Q:Act→Prop}{i:Nat}{l:List Nat}{a:Act}{o:Oper}(hi:ops[i]?=some o)
  (h:∀K:Act→Prop,(∀a,wpUp P ops I Q l a→K a)→if Region.wanted o (yielded ops a.tmps) then ∃v,OpUp P I o a v∧K (a.put o.dst v) else K (a.put o.dst undef)):wpUp P ops I Q (i::l) a:=by
 have:=h _ (fun _ h=>h);simp only[wpUp,hi];exact this
theorem wpUp_nil{I:World→Prop}{Q:Act→Prop}{a:Act}(h:Q a):wpUp P ops I Q [] a:=h
structure Form (md:Region.Mode)(ops:Array Oper)(n:Nat)(L:(World→Prop)→Array Bool→Act→Prop):Prop where
 sel:Region.noSelect ops=true
 lt:∀listed,HeadInv md ops n listed→∀i,i<n→listed.getD i true=false→∀t,n≤t→t∉Region.ready md ops listed
 done:∀I listed a,L I listed a→∀j∈Region.ready md ops listed,n≤j
theorem good_batch{n:Nat}{L:(World→Prop)→Array Bool→Act→Prop}(F:Form md ops n L){I:World→Prop}(hup:Up I){f:Nat}:∀(l:List Nat)(listed:Array Bool) (a:Act),HeadInv md ops n listed→batchB md ops n l listed=true →
  wpUp P ops I (fun a'=>HeadInv md ops n (setAll listed l)→Good P md ops n L f I (setAll listed l) a') l a→Good P md ops n L (l.length+f) I listed a
 |[],listed,a,inv,_,h=>by
  rw[List.length_nil,Nat.zero_add];exact h inv
 |i::l,listed,a,inv,hB,h=>by
  simp only[batchB,Bool.and_eq_true,decide_eq_true_eq] at hB;obtain⟨⟨⟨hin,hr⟩,hf⟩,hB'⟩:=hB;have hr':i∈Region.ready md ops listed:=by simpa using hr
  obtain⟨_,oi,hoi,_⟩:=mem_ready.1 hr';have hset:=inv.set hr' hin;simp only[wpUp,hoi] at h;rw[List.length_cons,show l.length+1+f=(l.length+f)+1 by omega]
  by_cases hw:Region.wanted oi (yielded ops a.tmps)=true
  ·rw[if_pos hw] at h
   obtain⟨v,hv,hK⟩:=h;exact good_first hoi (Region.noSelect_spec F.sel) F.lt hin F.done _ I listed a hup inv (Region.free_spec hoi hf) hr' (.inl ⟨hw,hv⟩) (good_batch F hup l _ _ hset hB' hK)
  ·rw[if_neg hw] at h
   exact good_first hoi (Region.noSelect_spec F.sel) F.lt hin F.done _ I listed a hup inv (Region.free_spec hoi hf) hr' (.inr ⟨by simpa using hw,rfl⟩) (good_batch F hup l _ _ hset hB' h)
theorem good_one{n f i:Nat}{L:(World→Prop)→Array Bool→Act→Prop}{I:World→Prop}{listed:Array Bool}{a:Act}(hr:(decide (Region.ready md ops listed=[i])&&decide (i<n))=true)(inv:HeadInv md ops n listed)
  (h:∀w,I w→mxOp P ops i (fun a' w'=>∃I':World→Prop,Up I'∧I' w'∧(∀w,I' w→I w)∧(HeadInv md ops n (listed.setIfInBounds i true)→Good P md ops n L f I' (listed.setIfInBounds i true) a')) a w):Good P md ops n L (f+1) I listed a:=by
 simp only[Bool.and_eq_true,decide_eq_true_eq] at hr;have hm:i∈Region.ready md ops listed:=by rw[hr.1];exact List.mem_cons_self
 refine⟨by rw[hr.1];exact List.cons_ne_nil _ _,fun j hj=>?_⟩;rw[hr.1] at hj;obtain rfl:j=i:=by simpa using hj
 exact⟨hr.2,fun w hw=>zIA (fun a' w' ⟨I',h1,h2,h3,h4⟩=>⟨I',h1,h2,h3,h4 (inv.set hm hr.2)⟩) (h w hw)⟩
theorem good_two{n f i k:Nat}{L:(World→Prop)→Array Bool→Act→Prop}{I:World→Prop}{listed:Array Bool}{a:Act}(hr:(decide (Region.ready md ops listed=[i,k])&&decide (i<n)&&decide (k<n))=true)(inv:HeadInv md ops n listed)
  (h:∀w,I w→mxOp P ops i (fun a' w'=>∃I':World→Prop,Up I'∧I' w'∧(∀w,I' w→I w)∧(HeadInv md ops n (listed.setIfInBounds i true)→Good P md ops n L f I' (listed.setIfInBounds i true) a')) a w)
  (h':∀w,I w→mxOp P ops k (fun a' w'=>∃I':World→Prop,Up I'∧I' w'∧(∀w,I' w→I w)∧(HeadInv md ops n (listed.setIfInBounds k true)→Good P md ops n L f I' (listed.setIfInBounds k true) a')) a w):Good P md ops n L (f+1) I listed a:=by
 simp only[Bool.and_eq_true,decide_eq_true_eq] at hr;have hm:i∈Region.ready md ops listed:=by rw[hr.1.1];exact List.mem_cons_self
 have hm':k∈Region.ready md ops listed:=by rw[hr.1.1];exact List.mem_cons_of_mem _ List.mem_cons_self
 refine⟨by rw[hr.1.1];exact List.cons_ne_nil _ _,fun j hj=>?_⟩;rw[hr.1.1] at hj;rcases List.mem_cons.1 hj with rfl | hj
 ·exact⟨hr.1.2,fun w hw=>zIA (fun a' w' ⟨I',h1,h2,h3,h4⟩=>⟨I',h1,h2,h3,h4 (inv.set hm hr.1.2)⟩) (h w hw)⟩
 ·obtain rfl:j=k:=by simpa using hj
  exact⟨hr.2,fun w hw=>zIA (fun a' w' ⟨I',h1,h2,h3,h4⟩=>⟨I',h1,h2,h3,h4 (inv.set hm' hr.2)⟩) (h' w hw)⟩
def Leaf(P:Program)(ops:Array Oper)(l:List Oper)(n:Nat)(Q:Exit→Act→World→Prop)(I:World→Prop)(listed:Array Bool)(a:Act):Prop :=
 Region.seqB .any ops (ops.size - n) n listed=true∧∀w,I w→wpList P ops Q (l.drop n) a w
def mixB(ops:Array Oper)(n:Nat):Bool :=
 Region.noSelect ops&&(decide (n=ops.size)||(decide (n<ops.size)&&Region.sinkB .any ops n&&Region.chainB .any ops n))
theorem wp_region_mix{id:Nat}{Q:Exit→Act→World→Prop}{a:Act}{w:World}{l:List Oper}(n:Nat)(I:World→Prop)(hm:P.follows .mixedOrders=true)(hB:mixB l.toArray n=true)
  (hd:I {w with drawn:=w.drawn+1})
  (h:Form .any l.toArray n (Leaf P l.toArray l n Q)→HeadInv .any l.toArray n (Array.replicate l.toArray.size false)→Good P .any l.toArray n (Leaf P l.toArray l n Q) n I (Array.replicate l.toArray.size false) a):(Code.region id l.toArray true).wp P Q a w:=by
 simp only[mixB,Bool.and_eq_true,Bool.or_eq_true,decide_eq_true_eq] at hB;obtain⟨hsel,hn⟩:=hB;have hn':n≤l.length:=by
  rcases hn with hn | ⟨⟨hn,_⟩,_⟩
  ·simpa using Nat.le_of_eq hn
  ·have:n<l.length:=by simpa using hn
   omega
 have hdl:(l.drop n).length=l.toArray.size - n:=by simp
 have inv0:HeadInv .any l.toArray n (Array.replicate l.toArray.size false) :=
  ⟨by simp,fun j oj _ hl=>(by rw[getD_replicate_false] at hl;cases hl),fun t _ ht=>getD_in (by simpa using ht) (getD_replicate_false _ _)⟩
 have F:Form .any l.toArray n (Leaf P l.toArray l n Q):=by
  refine⟨hsel,fun listed inv i hi hun t ht hr=>?_,fun I listed a hL=>seqB_ready hL.1⟩;rcases hn with hn | ⟨⟨hn,hs⟩,hc⟩
  ·obtain⟨_,ot,hot,_⟩:=mem_ready.1 hr
   have:=(Array.getElem?_eq_some_iff.1 hot).1;omega
  ·exact tail_waits hs hc hn inv _ i rfl hi hun t ht hr
 refine wp_region_any hm ?_
 have:=wpAny_of_good (Q':=Q) (g:=l.toArray.size - n) (fun I listed a' w' hI hL=>by
  have:=wpAny_of_seq (md:=.any) (Q':=Q) (l.drop n) n listed a' w' (fun j=>by simp[List.getElem?_drop]) (by rw[hdl];exact hL.1) (hL.2 w' hI)
  rwa [hdl] at this) _ _ _ _ _ hd (h F inv0)
 rw[show n+(l.toArray.size - n)=l.toArray.size by omega] at this;exact this
theorem mxOp_go{i:Nat}{o:Oper}{a:Act}{w:World}{K:Act→World→Prop}(hi:ops[i]?=some o)(hw:Region.wanted o (yielded ops a.tmps)=true)(h:o.wp P a w K noExit):mxOp P ops i K a w:=by
 unfold mxOp;simp only[hi,hw,if_true];exact h
end
end Mix
section
variable {P:Program} {o:Oper} {a:Act} {w w0:World} {Q:Exit→Act→World→Prop} {B:Nat} {L:List (Nat×Array Value×TypeId)}
theorem St.up:Mix.Up (St B w0 L):=fun _ _ st hb=>st.call hb
theorem zAU{I:World→Prop}{F:Value→Prop}{v:Value}(h:∀w,I w→(execOp a.eval o).run P w=.ok (.value v) w)(hF:F v):∃v,Mix.OpUp P I o a v∧F v :=
 ⟨v,fun w hw=>by rw[h w hw];exact⟨rfl,Below.refl _ _⟩,hF⟩
theorem zFB{I:World→Prop}{F:Value→Prop}(ty:TypeId)(x:Operand)(ho:o.op=.load ty x)
  (g:Nat) (hx:a.eval x=.pointer (some ⟨g,0,none⟩)) (d:TypeDesc) (hu:P.underlying ty=some d) (hd:zGJ d=true) (cs:Array Value) (t:TypeId)
  (hg:∀w,I w→w.heap[g]?=some (.cells cs t (0,0))) (hi:(P.info? ty).map (·.size)=some cs.size) (hF:F (.agg cs)):∃v,Mix.OpUp P I o a v∧F v:=by
 refine⟨_,fun w hw=>?_,hF⟩;unfold execOp;simp only[ho,hx,Sem.run_bind,zHV w g t ty cs (0,0) d (hg w hw) hu hd hi,Result.andThen_ok,Sem.run_pure,Mix.ResUp];exact⟨trivial,Below.refl _ _⟩
theorem zER{I:World→Prop}{F:Value→Prop}{v:Value}(f:FuncId)(args:Array Value)(h:∀w,I w→(execOp a.eval o).run P w=.ok (.enter f args) w)
  (hc:∀w,I w→Calls P f args w (fun e w'=>e=.returned v∧Below w.heap.size w w')) (hF:F v):∃v,Mix.OpUp P I o a v∧F v :=
 ⟨v,fun w hw=>by rw[h w hw];exact⟨Below.refl _ _,hc w hw⟩,hF⟩
end
section
variable {P:Program} {ops:Array Oper} {md:Region.Mode} {a:Act} {w w0:World} {B:Nat} {L:List (Nat×Array Value×TypeId)}
theorem St.swap{p q:Nat×Array Value×TypeId}(st:St B w0 (p::q::L) w):St B w0 (q::p::L) w :=
 ⟨st.below,st.size,fun r hr=>st.rows r (by simp only[List.mem_cons] at hr ⊢;rcases hr with h | h | h<;>simp[h]),by
  have:=st.nodup;simp only[List.map_cons,List.nodup_cons,List.mem_cons,not_or] at this ⊢;exact⟨⟨fun h=>this.1.1 h.symm,this.2.1⟩,this.1.2,this.2.2⟩⟩
theorem mxOp_newA(st:St B w0 L w){i:Nat}{o:Oper}{K:Act→World→Prop}(hi:ops[i]?=some o)(hw:Region.wanted o (yielded ops a.tmps)=true)(ty:TypeId)(ho:o.op=.alloc ty)(cs:Array Value)(hz:(P.info? ty).bind (·.zero)=some (.agg cs))
  (h:∀b w1,St B w0 ((b,cs,ty)::L) w1→K (a.put o.dst (.pointer (some ⟨b,0,none⟩))) w1):Mix.mxOp P ops i K a w:=by
 refine Mix.mxOp_go hi hw ?_;unfold Oper.wp execOp
 cases hq:P.info? ty with
 |none=>simp[hq] at hz
 |some i =>
  have hz':i.zero=some (.agg cs):=by simpa[hq] using hz
  simp only[ho,Instr.alloc,zeroValue,typeInfo,run_program,hq,hz',newVar,newRow,Sem.run_bind,run_newObj,Sem.run_pure,Result.andThen_ok,Oper.upon];exact h _ _ (st.new _ ty)
theorem zAT{i:Nat}{o:Oper}{K:Act→World→Prop}(hi:ops[i]?=some o)(hw:Region.wanted o (yielded ops a.tmps)=true)(f:FuncId)(args:Array Value)(h:(execOp a.eval o).run P w=.ok (.enter f args) w)
  (hc:Calls P f args w (fun e w'=>∃v,e=.returned v∧K (a.put o.dst v) w')):Mix.mxOp P ops i K a w:=by
 refine Mix.mxOp_go hi hw ?_;unfold Oper.wp;rw[h];simp only[Oper.upon];refine hc.mono ?_;rintro e w' ⟨v,rfl,hk⟩;exact hk
end
end
end Go.Proofs.YtlcngapphloafaaGreatDoor
