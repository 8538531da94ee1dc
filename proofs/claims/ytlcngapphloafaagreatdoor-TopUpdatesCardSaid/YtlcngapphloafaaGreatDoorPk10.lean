/- Parts of the proof that are used by the claim: TBytes. No condition is added here. -/
import Derived.Test.YtlcngapphloafaaGreatDoorPk8
import Derived.Laws.CopyOwn
namespace Go.Proofs.YtlcngapphloafaaGreatDoor
section
open Go Go.RowKit
def RdB(w:World)(v:Value)(l:List Nat):Prop :=
 l.length≤maxLen∧((l=[]∧∃a cap,v=.slice a 0 cap)∨∃b off cap,v=.slice (some ⟨b,off,none⟩) l.length cap∧∀i,i<l.length→w.cell? ⟨b,off+i,none⟩=some (.int .u8 (l.getD i 0:Nat)))
theorem RdB.call{w w':World}{v:Value}{l:List Nat}(h:RdB w v l)(hb:Below w.heap.size w w'):RdB w' v l:=by
 refine⟨h.1,?_⟩;rcases h.2 with h | ⟨b,off,cap,hv,hc⟩
 ·exact .inl h
 ·refine .inr ⟨b,off,cap,hv,fun i hi=>?_⟩
  rw[hb.cell (zAS (hc i hi))];exact hc i hi
theorem RdB.row{w:World}{b:Nat}{l:List Nat}{t:TypeId}{cap:Nat}(hl:l.length≤maxLen)(h:w.heap[b]?=some (.cells (kv l) t (0,0))):RdB w (.slice (some ⟨b,0,none⟩) l.length cap) l :=
 ⟨hl,.inr ⟨b,0,cap,rfl,fun i hi=>by
  simp only[World.cell?,h,Option.isSome_none,Bool.false_eq_true,if_false,Nat.zero_add];exact zFX l i hi⟩⟩
theorem RdB.nil(w:World):RdB w (.slice none 0 0) []:=⟨Nat.zero_le _,.inl ⟨rfl,_,_,rfl⟩⟩
theorem RdB.open{w:World}{v:Value}{l:List Nat}(h:RdB w v l):∃a cap,v=.slice a l.length cap ∧
  Hid (0<l.length→∃b off,a=some ⟨b,off,none⟩∧∀w':World,Below w.heap.size w w'→∀k:Nat,k<l.length→w'.cell? ⟨b,off+k,none⟩=some (.int .u8 (l.getD k 0:Nat))):=by
 rcases h.2 with ⟨rfl,a,cap,rfl⟩ | ⟨b,off,cap,rfl,hc⟩
 ·exact⟨a,cap,rfl,fun h=>absurd h (by decide)⟩
 ·refine⟨_,cap,rfl,fun _=>⟨b,off,rfl,fun w' hb k hk=>?_⟩⟩
  rw[hb.cell (zAS (hc k hk))];exact hc k hk
def zAJ(l:List Nat):List Value:=l.map fun (n:Nat)=>Value.int .u8 (n:Int)
theorem zAI(l:List Nat):(zAJ l).length=l.length:=by simp[zAJ]
theorem zHP(l:List Nat)(i:Nat)(h:i<l.length):(zAJ l)[i]?=some (.int .u8 (l.getD i 0:Nat)):=by simp[zAJ,h]
theorem zCJ(l:List Nat):(kv l).toList=zAJ l:=by simp[kv,zAJ]
theorem zBK(l:List Nat):(zAJ l).toArray=kv l:=by simp[kv,zAJ]
theorem zCB(l m:List Nat):zAJ (l++m)=zAJ l++zAJ m:=by simp[zAJ]
theorem bcells_one(l:List Nat):∀v∈zAJ l,v.oneCell'=true:=by
 intro v hv;obtain⟨n,_,rfl⟩:=List.mem_map.1 hv;rfl
section
variable {P:Program} {ops:Array Oper} {rest:List Oper} {o:Oper} {a:Act} {w w0:World} {Q:Exit→Act→World→Prop} {B:Nat} {L:List (Nat×Array Value×TypeId)}
theorem wpList_copyR(st:St B w0 L w)(hgd:o.guard=none)(d s:Operand)(dT sT:TypeId)
  (ho:o.op=.call {callee:=.builtin .copy,args:=#[d,s],argTypes:=#[dT,sT]}) (elem:TypeId) (hu:P.underlying dT=some (.slice elem)) (hsz:(P.info? elem).map (·.size)=some 1)
  (i b dLen dCap:Nat) (hd:a.eval d=.slice (some ⟨b,0,none⟩) dLen dCap) (old:Array Value) (t:TypeId) (hL:L[i]?=some (b,old,t)) (sp:Option Addr) (sLen sCap:Nat) (hs:a.eval s=.slice sp sLen sCap)
  (cs:List Value) (hn:cs.length=Nat.min sLen dLen) (hsrc:0<cs.length→∃ad,sp=some ad∧∀j v,cs[j]?=some v→w.cell? (ad.add j)=some v)
  (hfit:cs.length≤old.size) (h1:∀v∈cs,v.oneCell'=true) (new:Array Value) (hnew:(cs++old.toList.drop cs.length).toArray=new) (L':List (Nat×Array Value×TypeId)) (hL':L.set i (b,new,t)=L')
  (h:∀w1,St B w0 L' w1→wpList P ops Q rest (a.put o.dst (goInt cs.length)) w1):wpList P ops Q (o::rest) a w:=by
 by_cases h0:cs.length=0
 ·obtain rfl:cs=[]:=List.eq_nil_of_length_eq_zero h0
  refine wpList_copy_nothing hgd d s dT sT ho elem hu hsz _ sp dLen dCap sLen sCap hd hs (by simpa using hn.symm) ?_;have e:new=old:=by rw[←hnew];simp
  subst e;have e2:L.set i (b,new,t)=L:=by
   obtain⟨hi,he⟩:=List.getElem?_eq_some_iff.1 hL;rw[←he];simp
  rw[←hL',e2] at h;exact h w st
 ·obtain⟨ad,rfl,hc⟩:=hsrc (by omega)
  refine wpList_copy_own hgd d s dT sT ho elem hu hsz b 0 dLen dCap ad sLen sCap hd hs old t (st.at hL) cs hn hc (by omega) h1 ?_;have e:(old.toList.take 0++(cs++old.toList.drop (0+cs.length))).toArray=new:=by rw[←hnew];simp
  rw[e];exact h _ (st.put hL _ hL')
end
section
variable {P:Program} {ops:Array Oper} {rest:List Oper} {o:Oper} {a:Act} {w w0:World} {Q:Exit→Act→World→Prop} {B:Nat} {L:List (Nat×Array Value×TypeId)}
theorem St.perm{L':List (Nat×Array Value×TypeId)}(st:St B w0 L w)(h:L.Perm L'):St B w0 L' w :=
 ⟨st.below,st.size,fun p hp=>st.rows p (h.mem_iff.2 hp),(h.map _).nodup_iff.1 st.nodup⟩
theorem front_perm{α:Type}:∀(L:List α)(i:Nat) (h:i<L.length),L.Perm (L[i]::L.eraseIdx i)
 |_::_,0,_=>List.Perm.refl _
 |x::L,i+1,h=>by
  have h':i<L.length:=by simpa using h
  simp only[List.getElem_cons_succ,List.eraseIdx_cons_succ];exact((front_perm L i h').cons x).trans (List.Perm.swap _ _ _)
theorem St.front(st:St B w0 L w)(i:Nat)(h:i<L.length):St B w0 (L[i]::L.eraseIdx i) w:=st.perm (front_perm L i h)
theorem zCW(st:St B w0 L w)(hgd:o.guard=none)(ty:TypeId)(x y:Operand)(ho:o.op=.store ty x y)
  (i:Nat) (b:Nat) (hx:a.eval x=.pointer (some ⟨b,0,none⟩)) (v:Value) (hy:a.eval y=v) (old:Array Value) (t:TypeId) (hL:L[i]?=some (b,old,t))
  (hi:(P.info? ty).map (·.size)=some v.cells.size) (hs:v.cells.size=old.size) (h1:∀u∈v.cells.toList,u.oneCell'=true)
  (L':List (Nat×Array Value×TypeId)) (hL':L.set i (b,v.cells,t)=L')
  (h:∀w1,St B w0 L' w1→w.grownBy w1 (some b)→wpList P ops Q rest (a.put o.dst undef) w1):wpList P ops Q (o::rest) a w:=by
 refine wpList_plain hgd fun K hK=>?_
 unfold Oper.wp execOp;simp only[ho,hx,hy,Instr.storeAt,Instr.sureAddr,Sem.run_bind,Sem.run_pure,Result.andThen_ok,zIE w b t ty old v (st.at hL) hi hs h1,Oper.upon];exact hK _ _ (h _ (st.put hL _ hL') ⟨rfl,rfl,rfl,by simp[World.setRow],fun k _ hk=>setRow_other w b k v.cells (fun e=>hk (by rw[e]))⟩)
end
end
end Go.Proofs.YtlcngapphloafaaGreatDoor
