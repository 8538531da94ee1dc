/- Parts of the proof that are used by the claim: Canon, Pl1, Tr8, Tr9, WayT, LocT, SibT. No condition is added here. -/
import Derived.Test.YtlcngapphloafaaGreatDoorPk24
import Derived.Test.YtlcngapphloafaaGreatDoorPk23
namespace Go.Proofs.YtlcngapphloafaaGreatDoor
section
open Go Go.RowKit
abbrev Ent:=List Nat×List Nat
def zBY(es:List Ent)(d b:Nat):List Ent:=es.filter fun x=>decide (zBO x.1 d=b)
def zCI:Nat→List Ent→Nat→Tr
 |0,_,_=>.nil
 |_+1,[],_=>.nil
 |_+1,[e],_=>.leaf e.1 e.2
 |n+1,e::f::l,d=>.inner (zCI n (zBY (e::f::l) d 0) (d+1)) (zCI n (zBY (e::f::l) d 1) (d+1))
structure DistB (es:List Ent)(d:Nat):Prop where
 ne:es.Pairwise fun e f=>e.1≠f.1
 key:∀e∈es,Key e.1
 same:∀e∈es,∀f∈es,∀j<d,zBO e.1 j=zBO f.1 j
theorem zGP{n:Nat}{es:List Ent}{d:Nat}(h:2≤es.length):zCI (n+1) es d=.inner (zCI n (zBY es d 0) (d+1)) (zCI n (zBY es d 1) (d+1)):=by
 match es,h with
 |_::_::_,_=>rfl
theorem bldT_nil(n d:Nat):zCI n [] d=.nil:=by cases n<;>rfl
theorem zGQ{n:Nat}(h:1≤n)(e:Ent)(d:Nat):zCI n [e] d=.leaf e.1 e.2:=by
 obtain⟨m,rfl⟩:∃m,n=m+1:=⟨n - 1,by omega⟩
 rfl
theorem bldT_perm:∀(n:Nat) {es es':List Ent} (d:Nat),es.Perm es'→zCI n es d=zCI n es' d
 |0,_,_,_,_=>rfl
 |n+1,es,es',d,h=>by
  have hl:=h.length_eq
  match es,es',h,hl with
  |[],[],_,_=>rfl
  |[e],[f],h,_ =>
   obtain rfl:e=f:=by simpa using h
   rfl
  |e::f::l,e'::f'::l',h,_ =>
   have hp:∀b,(zBY (e::f::l) d b).Perm (zBY (e'::f'::l') d b):=fun b=>h.filter _
   rw[zGP (by simp),zGP (by simp),bldT_perm n (d+1) (hp 0),bldT_perm n (d+1) (hp 1)]
theorem part_len(d:Nat):∀es:List Ent,(zBY es d 0).length+(zBY es d 1).length=es.length
 |[]=>rfl
 |e::es=>by
  have ih:=part_len d es;have hb:=zCQ e.1 d;unfold zBY at *;rw[List.filter_cons,List.filter_cons,List.length_cons];rcases Nat.lt_or_ge (zBO e.1 d) 1 with h | h
  ·have h0:zBO e.1 d=0:=by omega
   simp only[h0,decide_true,if_true,decide_false,Nat.zero_ne_one,Bool.false_eq_true,if_false,List.length_cons];omega
  ·have h0:zBO e.1 d=1:=by omega
   simp only[h0,decide_true,if_true,decide_false,Nat.one_ne_zero,Bool.false_eq_true,if_false,List.length_cons];omega
theorem joinT_inner{l r:Tr}(h:(l≠.nil∧r≠.nil)∨zBZ l=2∨zBZ r=2):joinT l r=.inner l r:=by
 cases l<;>cases r<;>simp_all [joinT,zBZ]
theorem bldT_ne{n:Nat}(hn:1≤n){es:List Ent}(h:1≤es.length)(d:Nat):zCI n es d≠.nil:=by
 obtain⟨m,rfl⟩:∃m,n=m+1:=⟨n - 1,by omega⟩
 match es,h with
 |[e],_=>simp[zCI]
 |e::f::l,_=>simp[zCI]
theorem kind_two{n:Nat}(hn:1≤n){es:List Ent}(h:2≤es.length)(d:Nat):zBZ (zCI n es d)=2:=by
 obtain⟨m,rfl⟩:∃m,n=m+1:=⟨n - 1,by omega⟩
 rw[zGP h];rfl
theorem join_bld{n:Nat}(hn:1≤n)(es:List Ent)(d:Nat):joinT (zCI n (zBY es d 0) (d+1)) (zCI n (zBY es d 1) (d+1))=zCI (n+1) es d:=by
 have hl:=part_len d es
 by_cases h2:2≤es.length
 ·rw[zGP h2]
  refine joinT_inner ?_
  by_cases h0:(zBY es d 0).length=0
  ·exact .inr (.inr (kind_two hn (by omega) _))
  ·by_cases h1:(zBY es d 1).length=0
   ·exact .inr (.inl (kind_two hn (by omega) _))
   ·exact .inl ⟨bldT_ne hn (by omega) _,bldT_ne hn (by omega) _⟩
 ·match es,h2,hl with
  |[],_,_=>simp[zBY,bldT_nil,joinT]
  |[e],_,_ =>
   have hb:=zCQ e.1 d;rcases Nat.lt_or_ge (zBO e.1 d) 1 with h | h
   ·have h0:zBO e.1 d=0:=by omega
    have e0:zBY [e] d 0=[e]:=by simp[zBY,h0]
    have e1:zBY [e] d 1=[]:=by simp[zBY,h0]
    rw[e0,e1,bldT_nil,zGQ hn];rfl
   ·have h0:zBO e.1 d=1:=by omega
    have e0:zBY [e] d 0=[]:=by simp[zBY,h0]
    have e1:zBY [e] d 1=[e]:=by simp[zBY,h0]
    rw[e0,e1,bldT_nil,zGQ hn];rfl
  |_::_::_,h,_=>simp at h
theorem zJH{k:List Nat}{d:Nat}(hd:d<256):zDQ k (d:Nat)=(zBO k d:Nat):=by
 unfold zDQ;rw[if_pos (by omega)];simp
theorem jo_bld{n:Nat}(hn:1≤n)(k:List Nat)(es:List Ent){d:Nat}(hd:d<256):jo k (d:Nat) (zCI n (zBY es d (zBO k d)) (d+1)) (zCI n (zBY es d (1 - zBO k d)) (d+1))=zCI (n+1) es d:=by
 have hb:=zCQ k d;unfold jo;rw[zJH hd];rcases Nat.lt_or_ge (zBO k d) 1 with h | h
 ·have h0:zBO k d=0:=by omega
  rw[h0,if_pos (show ((0:Nat):Int)=0 from rfl)];exact join_bld hn es d
 ·have h0:zBO k d=1:=by omega
  rw[h0,if_neg (show ¬((1:Nat):Int)=0 by decide)];exact join_bld hn es d
def zJK(k v:List Nat):Nat→Tr→Tr
 |_,.nil=>.leaf k v
 |d,.leaf k' v'=>if k'=k then .leaf k v else pairU k' (zEX k' k) (.leaf k' v') (.leaf k v) (zEX k' k - d)
 |d,.inner l r=>if zDQ k (d:Nat)=0 then jo k (d:Nat) (zJK k v (d+1) l) r else jo k (d:Nat) (zJK k v (d+1) r) l
theorem comN_lt{a b:List Nat}(ha:Key a)(hb:Key b)(h:a≠b):zEX a b<256:=by
 have h1:=comN_le a b;have h2:=comN_256 ha hb;rcases Nat.lt_or_ge (zEX a b) 256 with h3 | h3
 ·exact h3
 ·exact absurd (h2.1 (by omega)) h
theorem pair_bld{k k' v v':List Nat}(hc:zEX k' k<256):∀j,j≤zEX k' k→pairU k' (zEX k' k) (.leaf k' v') (.leaf k v) j=zCI (257 - (zEX k' k - j)) [(k,v),(k',v')] (zEX k' k - j)
 |0,_=>by
  obtain⟨n,hn⟩:∃n,257 - zEX k' k=n+1∧1≤n:=⟨256 - zEX k' k,by omega,by omega⟩
  rw[Nat.sub_zero,hn.1,←jo_bld hn.2 k' _ hc];have hd:=zJD k' k hc;have h1:=zCQ k' (zEX k' k);have h2:=zCQ k (zEX k' k);generalize zEX k' k=c at *;have hx:zBO k c=1 - zBO k' c:=by omega
  have hx':1 - zBO k' c≠zBO k' c:=by omega
  have e0:zBY [(k,v),(k',v')] c (zBO k' c)=[(k',v')]:=by simp[zBY,hx,hx']
  have e1:zBY [(k,v),(k',v')] c (1 - zBO k' c)=[(k,v)]:=by simp[zBY,hx,hx'.symm]
  rw[e0,e1,zGQ hn.2,zGQ hn.2];rfl
 |j+1,hj=>by
  have ih:=pair_bld hc (v:=v) (v':=v') j (by omega);obtain⟨n,hn⟩:∃n,257 - (zEX k' k - (j+1))=n+1∧1≤n:=⟨256 - (zEX k' k - (j+1)),by omega,by omega⟩
  have hs:=comN_same k' k (zEX k' k - (j+1)) (by omega);rw[hn.1,←jo_bld hn.2 k' _ (by omega:zEX k' k - (j+1)<256)]
  show jo k' ((zEX k' k:Nat) - 1 - (j:Nat):Int) (pairU k' (zEX k' k) (.leaf k' v') (.leaf k v) j) .nil=_
  rw[ih,show ((zEX k' k:Nat) - 1 - (j:Nat):Int)=((zEX k' k - (j+1):Nat):Int) by omega,show zEX k' k - j=zEX k' k - (j+1)+1 by omega,show 257 - (zEX k' k - (j+1)+1)=n by omega];generalize zEX k' k - (j+1)=c at *;have h1:=zCQ k' c;have hx':1 - zBO k' c≠zBO k' c:=by omega
  have e0:zBY [(k,v),(k',v')] c (zBO k' c)=[(k,v),(k',v')]:=by simp[zBY,hs]
  have e1:zBY [(k,v),(k',v')] c (1 - zBO k' c)=[]:=by simp[zBY,←hs,hx'.symm]
  rw[e0,e1,bldT_nil]
theorem part_put(k v:List Nat)(es:List Ent)(d b:Nat):zBY ((k,v)::es.filter fun e=>decide (e.1≠k)) d b=if zBO k d=b then (k,v)::(zBY es d b).filter (fun e=>decide (e.1≠k)) else zBY es d b:=by
 unfold zBY;rw[List.filter_cons,List.filter_filter]
 by_cases h:zBO k d=b
 ·rw[if_pos (by simpa using h),if_pos h,List.filter_filter]
  congr 1
  exact List.filter_congr fun x _=>Bool.and_comm _ _
 ·rw[if_neg (by simpa using h),if_neg h]
  refine List.filter_congr fun x _=>?_
  by_cases hx:x.1=k
  ·simp[hx,h]
  ·simp[hx]
theorem DistB.part{es:List Ent}{d:Nat}(h:DistB es d)(b:Nat):DistB (zBY es d b) (d+1):=by
 refine⟨h.ne.filter _,fun e he=>h.key e (List.mem_filter.1 he).1,fun e he f hf j hj=>?_⟩;obtain⟨he1,he2⟩:=List.mem_filter.1 he;obtain⟨hf1,hf2⟩:=List.mem_filter.1 hf
 by_cases hjd:j<d
 ·exact h.same e he1 f hf1 j hjd
 ·obtain rfl:j=d:=by omega
  exact(of_decide_eq_true he2).trans (of_decide_eq_true hf2).symm
theorem DistB.few{es:List Ent}{d:Nat}(h:DistB es d)(hd:256≤d):es.length≤1:=by
 match es,h with
 |[],_=>simp
 |[_],_=>simp
 |e::f::l,h =>
  have hne:e.1≠f.1:=(List.pairwise_cons.1 h.ne).1 f List.mem_cons_self;exact absurd (key_ext (h.key e List.mem_cons_self) (h.key f (List.mem_cons_of_mem _ List.mem_cons_self)) fun j hj=>h.same e List.mem_cons_self f (List.mem_cons_of_mem _ List.mem_cons_self) j (by omega)) hne
theorem insT_bld{k v:List Nat}(hk:Key k):∀(n d:Nat)(es:List Ent),d+n=256→DistB es d→(∀e∈es,∀j<d,zBO e.1 j=zBO k j) →
  zJK k v d (zCI (n+1) es d)=zCI (n+1) ((k,v)::es.filter fun e=>decide (e.1≠k)) d
 |n,d,[],_,_,_=>rfl
 |n,d,[e],hd,hD,hp=>by
  rw[zGQ (by omega)];unfold zJK
  by_cases h:e.1=k
  ·rw[if_pos h]
   have e0:[e].filter (fun e=>decide (e.1≠k))=[]:=by simp[h]
   rw[e0,zGQ (by omega)]
  ·rw[if_neg h]
   have e0:[e].filter (fun e=>decide (e.1≠k))=[e]:=by simp[h]
   have hc:=comN_lt (hD.key e List.mem_cons_self) hk h;have hdc:d≤zEX e.1 k:=by
    rcases Nat.lt_or_ge (zEX e.1 k) d with h1 | h1
    ·exact absurd (hp e List.mem_cons_self _ h1) (zJD _ _ hc)
    ·exact h1
   rw[e0,pair_bld hc _ (by omega),show zEX e.1 k - (zEX e.1 k - d)=d by omega,show 257 - d=n+1 by omega]
 |n,d,e::f::l,hd,hD,hp=>by
  have hn:1≤n:=by
   rcases Nat.lt_or_ge d 256 with h | h
   ·omega
   ·have:=hD.few h
    simp at this
  obtain⟨m,rfl⟩:∃m,n=m+1:=⟨n - 1,by omega⟩
  generalize hes:e::f::l=es at *;have h2:2≤es.length:=by rw[←hes];simp
  have hd':d<256:=by omega
  have ih:=fun b=>insT_bld hk (v:=v) m (d+1) (zBY es d b) (by omega) (hD.part b)
  have hpp:∀b,b=zBO k d→∀e∈zBY es d b,∀j<d+1,zBO e.1 j=zBO k j:=fun b hb e he j hj=>by
   obtain⟨he1,he2⟩:=List.mem_filter.1 he
   by_cases hjd:j<d
   ·exact hp e he1 j hjd
   ·obtain rfl:j=d:=by omega
    exact(of_decide_eq_true he2).trans hb
  have hJ:=jo_bld hn k ((k,v)::es.filter fun e=>decide (e.1≠k)) hd';rw[part_put,part_put,if_pos rfl] at hJ;have hb:=zCQ k d;rw[if_neg (by omega)] at hJ;rw[zGP h2,←hJ];unfold zJK;rw[zJH hd'];rcases Nat.lt_or_ge (zBO k d) 1 with h | h
  ·have h0:zBO k d=0:=by omega
   have:=ih 0 (hpp 0 h0.symm);rw[h0,if_pos (show ((0:Nat):Int)=0 from rfl),this]
  ·have h0:zBO k d=1:=by omega
   have:=ih 1 (hpp 1 h0.symm);rw[h0,if_neg (show ¬((1:Nat):Int)=0 by decide),this]
def remT(k:List Nat):Nat→Tr→Option Tr
 |_,.nil=>none
 |_,.leaf k' _=>if k'=k then some .nil else none
 |d,.inner l r=>if zDQ k (d:Nat)=0 then (remT k (d+1) l).map (fun x=>joinT x r) else (remT k (d+1) r).map (fun x=>joinT l x)
theorem part_rem(k:List Nat)(es:List Ent)(d b:Nat):zBY (es.filter fun e=>decide (e.1≠k)) d b=(zBY es d b).filter (fun e=>decide (e.1≠k)):=by
 unfold zBY;rw[List.filter_filter,List.filter_filter];exact List.filter_congr fun x _=>Bool.and_comm _ _
theorem part_off(k:List Nat)(es:List Ent)(d b:Nat)(h:zBO k d≠b):zBY (es.filter fun e=>decide (e.1≠k)) d b=zBY es d b:=by
 unfold zBY;rw[List.filter_filter];refine List.filter_congr fun x _=>?_
 by_cases hx:x.1=k
 ·simp[hx,h]
 ·simp[hx]
theorem any_part(k:List Nat)(es:List Ent)(d:Nat):(zBY es d (zBO k d)).any (fun e=>decide (e.1=k))=es.any (fun e=>decide (e.1=k)):=by
 rw[Bool.eq_iff_iff,List.any_eq_true,List.any_eq_true];constructor
 ·rintro⟨x,hx,hk⟩
  exact⟨x,(List.mem_filter.1 hx).1,hk⟩
 ·rintro⟨x,hx,hk⟩
  exact⟨x,List.mem_filter.2 ⟨hx,by simp[of_decide_eq_true hk]⟩,hk⟩
theorem remT_bld{k:List Nat}:∀(n d:Nat)(es:List Ent),d+n=256→DistB es d →
  remT k d (zCI (n+1) es d)=if es.any (fun e=>decide (e.1=k)) then some (zCI (n+1) (es.filter fun e=>decide (e.1≠k)) d) else none
 |n,d,[],_,_=>rfl
 |n,d,[e],hd,hD=>by
  rw[zGQ (by omega)];unfold remT
  by_cases h:e.1=k
  ·simp[h,bldT_nil]
  ·simp[h]
 |n,d,e::f::l,hd,hD=>by
  have hn:1≤n:=by
   rcases Nat.lt_or_ge d 256 with h | h
   ·omega
   ·have:=hD.few h
    simp at this
  obtain⟨m,rfl⟩:∃m,n=m+1:=⟨n - 1,by omega⟩
  generalize hes:e::f::l=es at *;have h2:2≤es.length:=by rw[←hes];simp
  have hd':d<256:=by omega
  have ih:=fun b=>remT_bld (k:=k) m (d+1) (zBY es d b) (by omega) (hD.part b)
  have hb:=zCQ k d;rw[zGP h2];unfold remT;rw[zJH hd',←any_part k es d];rcases Nat.lt_or_ge (zBO k d) 1 with h | h
  ·have h0:zBO k d=0:=by omega
   rw[h0,if_pos (show ((0:Nat):Int)=0 from rfl),ih 0]
   by_cases ha:(zBY es d 0).any (fun e=>decide (e.1=k))=true
   ·rw[if_pos ha,if_pos ha,Option.map_some,←join_bld hn,part_rem k es d 0,part_off k es d 1 (by omega)]
   ·rw[if_neg ha,if_neg ha]
    rfl
  ·have h0:zBO k d=1:=by omega
   rw[h0,if_neg (show ¬((1:Nat):Int)=0 by decide),ih 1]
   by_cases ha:(zBY es d 1).any (fun e=>decide (e.1=k))=true
   ·rw[if_pos ha,if_pos ha,Option.map_some,←join_bld hn,part_rem k es d 1,part_off k es d 0 (by omega)]
   ·rw[if_neg ha,if_neg ha]
    rfl
end
section
open Go Go.RowKit
def zFH(va:Value→List Nat)(m:List (List Nat×Value)):List Ent:=m.map fun e=>(e.1,va e.2)
set_option maxRecDepth 20000 in
theorem part_entE(va:Value→List Nat)(m:List (List Nat×Value))(d b:Nat)(hd:d<256):zBY (zFH va m) d b=zFH va (m.filter fun x=>decide (zDQ x.1 (d:Nat)=(b:Nat))):=by
 unfold zBY zFH;rw[List.filter_map];refine congrArg _ (List.filter_congr fun x _=>?_)
 show decide (zBO x.1 d=b)=decide (zDQ x.1 (d:Nat)=(b:Nat))
 rw[zJH hd];exact decide_eq_decide.2 (by omega)
theorem DistAt.bld{va:Value→List Nat}{m:List (List Nat×Value)}{d:Nat}(h:DistAt m d)(hk:∀e∈m,Key e.1):DistB (zFH va m) d:=by
 refine⟨?_,?_,?_⟩
 ·exact List.pairwise_map.2 h.1
 ·intro e he
  obtain⟨x,hx,rfl⟩:=List.mem_map.1 he;exact hk x hx
 ·intro e he f hf j hj
  obtain⟨x,hx,rfl⟩:=List.mem_map.1 he;obtain⟨y,hy,rfl⟩:=List.mem_map.1 hf;exact h.2 x hx y hy j hj
set_option maxRecDepth 20000 in
theorem rootF_bld(va:Value→List Nat)(bits:Int):∀(n d:Nat)(m:List (List Nat×Value)),d+n=256→DistAt m d→(∀e∈m,Key e.1) →
  rootF va bits (n+1) m (d:Nat)=zJL zAK bits (zCI (n+1) (zFH va m) d)
 |n,d,[],_,_,_=>rfl
 |n,d,[e],_,_,_=>rfl
 |n,d,e::f::l,hd,hD,hk=>by
  have hB:=hD.bld (va:=va) hk;have hn:1≤n:=by
   rcases Nat.lt_or_ge d 256 with h | h
   ·omega
   ·have:=hB.few h
    simp[zFH] at this
  obtain⟨q,rfl⟩:∃q,n=q+1:=⟨n - 1,by omega⟩
  have ih:=fun b:Nat=>rootF_bld va bits q (d+1) ((e::f::l).filter fun x=>decide (zDQ x.1 (d:Nat)=(b:Nat))) (by omega) (hD.part (b:Nat) (by omega)) (fun e he=>hk e (List.mem_filter.1 he).1)
  have i0:=ih 0;have i1:=ih 1;rw[←part_entE va _ d _ (by omega)] at i0 i1;rw[zGP (by simp[zFH])]
  show zBE zAK bits _=zBE zAK bits _
  rw[show ((d+1:Nat):Int)=(d:Nat)+1 by omega] at i0 i1;rw[show ((0:Nat):Int)=0 from rfl] at i0;rw[show ((1:Nat):Int)=1 from rfl] at i1;rw[i0,i1]
theorem insE_perm(x:List Nat×Value):∀l:List (List Nat×Value),(insE x l).Perm (x::l)
 |[]=>List.Perm.refl _
 |y::l=>by
  unfold insE
  split
  ·exact List.Perm.refl _
  ·exact((insE_perm x l).cons y).trans (List.Perm.swap x y l)
theorem entE_ne(va:Value→List Nat)(m:List (List Nat×Value))(k:List Nat):zFH va (m.filter fun e=>decide (e.1≠k))=(zFH va m).filter fun e=>decide (e.1≠k):=by
 unfold zFH;rw[List.filter_map];rfl
theorem putE_ent(va:Value→List Nat)(m:List (List Nat×Value))(k:List Nat)(s:Value):(zFH va (putE m k s)).Perm ((k,va s)::(zFH va m).filter fun e=>decide (e.1≠k)):=by
 rw[←entE_ne];exact(insE_perm (k,s) _).map _
theorem putE_dist{m:List (List Nat×Value)}{k:List Nat}{s:Value}(h:DistAt m 0):DistAt (putE m k s) 0:=by
 refine⟨?_,fun _ _ _ _ _ hj=>absurd hj (Nat.not_lt_zero _)⟩;refine((insE_perm (k,s) (m.filter fun e=>decide (e.1≠k))).pairwise_iff (fun h=>Ne.symm h)).2 (List.pairwise_cons.2 ⟨fun e he=>?_,h.1.filter _⟩);exact Ne.symm (of_decide_eq_true (List.mem_filter.1 he).2)
theorem remE_dist{m:List (List Nat×Value)}{k:List Nat}(h:DistAt m 0):DistAt (m.filter fun e=>decide (e.1≠k)) 0 :=
 ⟨h.1.filter _,fun _ _ _ _ _ hj=>absurd hj (Nat.not_lt_zero _)⟩
theorem upE_dist{kb:Upd→List Nat}{m:List (List Nat×Value)}{u:Upd}(h:DistAt m 0):DistAt (upE kb m u) 0:=by
 unfold upE
 split
 ·exact remE_dist h
 ·exact putE_dist h
theorem applyE_dist{kb:Upd→List Nat}:∀(us:List Upd)(m:List (List Nat×Value)),DistAt m 0→DistAt (zGG kb m us) 0
 |[],_,h=>h
 |u::us,m,h=>applyE_dist us (upE kb m u) (upE_dist h)
def upKept(kb:Upd→List Nat)(va:Value→List Nat)(us:List Upd):List Ent:=(us.filter fun u=>!u.del).map fun u=>(kb u,va (.slice u.va u.vn u.vc))
theorem upE_ent(kb:Upd→List Nat)(va:Value→List Nat)(m:List (List Nat×Value))(u:Upd):(zFH va (upE kb m u)).Perm (((zFH va m).filter fun e=>decide (e.1≠kb u))++upKept kb va [u]):=by
 unfold upE
 cases hd:u.del
 ·rw[if_neg (by decide)]
  refine(putE_ent va m (kb u) _).trans ?_
  have:upKept kb va [u]=[(kb u,va (.slice u.va u.vn u.vc))]:=by simp[upKept,hd]
  rw[this];exact(List.perm_append_comm (l₁:=[(kb u,va (.slice u.va u.vn u.vc))]))
 ·rw[if_pos rfl,entE_ne]
  have:upKept kb va [u]=[]:=by simp[upKept,hd]
  rw[this,List.append_nil]
theorem applyE_ent(kb:Upd→List Nat)(va:Value→List Nat):∀(us:List Upd)(m:List (List Nat×Value)),us.Pairwise (fun x y=>kb x≠kb y) →
  (zFH va (zGG kb m us)).Perm (((zFH va m).filter fun e=>!us.any fun u=>decide (kb u=e.1))++upKept kb va us)
 |[],m,_=>by
  have e1:(zFH va m).filter (fun e=>!([]:List Upd).any fun u=>decide (kb u=e.1))=zFH va m:=List.filter_eq_self.2 fun _ _=>rfl
  rw[e1]
  show (zFH va m).Perm (zFH va m++[])
  rw[List.append_nil]
 |u::us,m,hp=>by
  obtain⟨h1,h2⟩:=List.pairwise_cons.1 hp;have ih:=applyE_ent kb va us (upE kb m u) h2;refine ih.trans ?_;have e1:=(upE_ent kb va m u).filter (fun e=>!us.any fun x=>decide (kb x=e.1));rw[List.filter_append,List.filter_filter] at e1;have e2:(upKept kb va [u]).filter (fun e=>!us.any fun x=>decide (kb x=e.1))=upKept kb va [u]:=by
   refine List.filter_eq_self.2 fun e he=>?_
   obtain⟨x,hx,rfl⟩:=List.mem_map.1 he;obtain rfl:=List.mem_singleton.1 (List.mem_filter.1 hx).1;rw[Bool.not_eq_true',List.any_eq_false];intro y hy hc;exact h1 y hy (of_decide_eq_true hc).symm
  have e3:(zFH va m).filter (fun a=>(!us.any fun x=>decide (kb x=a.1))&&decide (a.1≠kb u))=(zFH va m).filter fun e=>!(u::us).any fun x=>decide (kb x=e.1):=by
   refine List.filter_congr fun e _=>?_
   rw[List.any_cons,Bool.not_or,Bool.and_comm]
   congr 1
   by_cases h:e.1=kb u
   ·simp[h]
   ·simp[h,Ne.symm h]
  rw[e2,e3] at e1;refine(e1.append_right _).trans ?_;rw[List.append_assoc];refine List.Perm.append_left _ ?_;have e4:upKept kb va (u::us)=upKept kb va [u]++upKept kb va us:=by
   unfold upKept;rw[←List.map_append,←List.filter_append];rfl
  rw[e4]
end
section
set_option maxHeartbeats 1000000
open Go Go.RowKit
attribute [local irreducible] Inv.wpInv Mix.wpUp
def InPost2(KK:List Int)(bits:Int)(t:Tr)(w0 w:World)(e:Ending)(w':World):Prop:=∃pl pr ds n,e=.returned (.agg (zBT pl pr ds n))∧ds.length=64∧RepT KK bits w0 pl (subL t)∧RepT KK bits w0 pr (subR t)∧Below w.heap.size w w'
theorem inner_calls2(KK:List Int)(bits:Int)(t:Tr)(p:Option Addr)(w0 w:World)(h:RepT KK bits w0 p t)(hb:Below w0.heap.size w0 w) :
  Calls Tryz.prog 158 #[.pointer p] w (InPost2 KK bits t w0 w):=by
 have h':=h.call hb
 cases t with
 |nil=>exact(inner0_calls p 0 (by decide) w (fun wx hb=>zBW KK bits .nil p wx (h'.call hb))).mono (fun e w' ⟨h1,h2⟩=>⟨none,none,_,0,h1,by simp,rfl,rfl,h2⟩)
 |leaf k v=>exact(inner0_calls p 1 (by decide) w (fun wx hb=>zBW KK bits (.leaf k v) p wx (h'.call hb))).mono (fun e w' ⟨h1,h2⟩=>⟨none,none,_,0,h1,by simp,rfl,rfl,h2⟩)
 |inner l r =>
  obtain⟨nb,pl,pr,n,rfl,hr,hl,hrr⟩:=h;have h64:(zJL KK bits l++zJL KK bits r).length=64:=by rw[List.length_append,(zDL KK bits l).len,(zDL KK bits r).len]
  exact(innerInner_calls _ (zFY pl pr _ n h64) (innerCells_one pl pr _ n) nb w (row_cell0 ((hb.block nb (zAG hr)).trans hr))).mono (fun e w' ⟨h1,h2⟩=>⟨pl,pr,_,n,h1,h64,hl,hrr,h2⟩)
set_option maxRecDepth 20000 in
theorem Left_calls2(KK:List Int)(bits:Int)(t:Tr)(p:Option Addr)(w0 w:World)(h:RepT KK bits w0 p t)(hb:Below w0.heap.size w0 w) :
  Calls Tryz.prog 123 #[.pointer p] w fun e w'=>∃pl,e=.returned (.pointer pl)∧RepT KK bits w0 pl (subL t)∧Below w.heap.size w w':=by
 have HI:=Lib.hid (inner_calls2 KK bits t p w0 w h hb);clear h hb;have st:=St.init w;go_enter Tryz.func123,Tryz.ntmps123
 go_wp2_with (first
  |(go_at_call 158;refine HI.out.mono ?_;rintro e w2 ⟨pl,pr,ds,n,rfl,hds,hl,hr,hbel⟩;have st2:=st.call hbel;clear st hbel;have hq:=fieldInner0 (zBT pl pr ds n) w2;rw[innerCells_sub] at hq;have hq2:=indexPN0 (.pointer pl) (.pointer pr) w2;generalize zBT pl pr ds n=ic at *;have HL:=Lib.hid hl;clear hl hr))
 go_ret;exact⟨pl,rfl,HL.out,st2.below⟩
set_option maxRecDepth 20000 in
theorem Right_calls2(KK:List Int)(bits:Int)(t:Tr)(p:Option Addr)(w0 w:World)(h:RepT KK bits w0 p t)(hb:Below w0.heap.size w0 w) :
  Calls Tryz.prog 124 #[.pointer p] w fun e w'=>∃pl,e=.returned (.pointer pl)∧RepT KK bits w0 pl (subR t)∧Below w.heap.size w w':=by
 have HI:=Lib.hid (inner_calls2 KK bits t p w0 w h hb);clear h hb;have st:=St.init w;go_enter Tryz.func124,Tryz.ntmps124
 go_wp2_with (first
  |(go_at_call 158;refine HI.out.mono ?_;rintro e w2 ⟨pl,pr,ds,n,rfl,hds,hl,hr,hbel⟩;have st2:=st.call hbel;clear st hbel;have hq:=fieldInner0 (zBT pl pr ds n) w2;rw[innerCells_sub] at hq;have hq2:=indexPN1 (.pointer pl) (.pointer pr) w2;generalize zBT pl pr ds n=ic at *;have HR:=Lib.hid hr;clear hl hr))
 go_ret;exact⟨pr,rfl,HR.out,st2.below⟩
set_option maxRecDepth 20000 in
theorem zDW(KK:List Int)(bits:Int)(t:Tr)(p:Option Addr)(b:Int)(w0 w:World)(h:RepT KK bits w0 p t)(hbw:Below w0.heap.size w0 w) :
  Calls Tryz.prog 78 #[.pointer p,.int .i64 b] w fun e w'=>∃pl,e=.returned (.pointer pl)∧RepT KK bits w0 pl (zCH t b)∧Below w.heap.size w w':=by
 have HL:=Lib.hid (Left_calls2 KK bits t p w0 w h hbw);have HR:=Lib.hid (Right_calls2 KK bits t p w0 w h hbw);clear h hbw
 by_cases hb:b=0
 ·subst hb
  go_enter Tryz.func78,Tryz.ntmps78
  go_wp2_with (first
   |(go_at_call 123;refine HL.out.mono ?_;rintro e w2 ⟨pl,rfl,hr,hbel⟩))
  go_ret;exact⟨pl,rfl,hr,hbel⟩
 ·have hbb:(b==0)=false:=by simp[hb]
  have hc:zCH t b=subR t:=if_neg hb;rw[hc];go_enter Tryz.func78,Tryz.ntmps78
  go_wp2_with (first
   |(go_at_call 124;refine HR.out.mono ?_;rintro e w2 ⟨pl,rfl,hr,hbel⟩))
  go_ret;exact⟨pl,rfl,hr,hbel⟩
theorem upN_congr{k:List Nat}{ts ts':Nat→Tr}{m:Nat}{t:Tr}(h:∀i<m,ts i=ts' i):∀j,j≤m→upN k ts m t j=upN k ts' m t j
 |0,_=>rfl
 |j+1,hj=>by
  unfold upN;rw[upN_congr h j (by omega),h (m - 1 - j) (by omega)]
theorem upN_snoc(k:List Nat)(ts:Nat→Tr)(m:Nat)(t:Tr):∀j,upN k ts (m+1) t (j+1)=upN k ts m (jo k (m:Nat) t (ts m)) j
 |0=>rfl
 |j+1=>by
  show jo k ((m+1 - 1 - (j+1):Nat):Int) (upN k ts (m+1) t (j+1)) (ts (m+1 - 1 - (j+1)))=jo k ((m - 1 - j:Nat):Int) (upN k ts m (jo k (m:Nat) t (ts m)) j) (ts (m - 1 - j))
  rw[upN_snoc k ts m t j,show m+1 - 1 - (j+1)=m - 1 - j by omega]
def wayOK(k:List Nat):Nat→Tr→Prop
 |_,.nil=>True
 |d,.leaf k' _=>k'≠k→d≤zEX k' k
 |d,.inner l r=>d<256∧if zDQ k (d:Nat)=0 then wayOK k (d+1) l else wayOK k (d+1) r
theorem wayOK_bld{k:List Nat}(hk:Key k):∀(n d:Nat)(es:List Ent),d+n=256→DistB es d→(∀e∈es,∀j<d,zBO e.1 j=zBO k j)→wayOK k d (zCI (n+1) es d)
 |n,d,[],_,_,_=>trivial
 |n,d,[e],hd,hD,hp=>by
  rw[zGQ (by omega)];intro h;have hc:=comN_lt (hD.key e List.mem_cons_self) hk h;rcases Nat.lt_or_ge (zEX e.1 k) d with h1 | h1
  ·exact absurd (hp e List.mem_cons_self _ h1) (zJD _ _ hc)
  ·exact h1
 |n,d,e::f::l,hd,hD,hp=>by
  have hn:1≤n:=by
   rcases Nat.lt_or_ge d 256 with h | h
   ·omega
   ·have:=hD.few h
    simp at this
  obtain⟨m,rfl⟩:∃m,n=m+1:=⟨n - 1,by omega⟩
  generalize hes:e::f::l=es at *;have h2:2≤es.length:=by rw[←hes];simp
  have hd':d<256:=by omega
  have ih:=fun b=>wayOK_bld hk m (d+1) (zBY es d b) (by omega) (hD.part b)
  have hpp:∀b,b=zBO k d→∀e∈zBY es d b,∀j<d+1,zBO e.1 j=zBO k j:=fun b hb e he j hj=>by
   obtain⟨he1,he2⟩:=List.mem_filter.1 he
   by_cases hjd:j<d
   ·exact hp e he1 j hjd
   ·obtain rfl:j=d:=by omega
    exact(of_decide_eq_true he2).trans hb
  have hb:=zCQ k d;rw[zGP h2];refine⟨hd',?_⟩;rw[zJH hd'];rcases Nat.lt_or_ge (zBO k d) 1 with h | h
  ·have h0:zBO k d=0:=by omega
   rw[h0,if_pos (show ((0:Nat):Int)=0 from rfl)];exact ih 0 (hpp 0 h0.symm)
  ·have h0:zBO k d=1:=by omega
   rw[h0,if_neg (show ¬((1:Nat):Int)=0 by decide)];exact ih 1 (hpp 1 h0.symm)
theorem sliceN:Tryz.prog.underlying 106=some (.slice 59):=by kernel_rfl
theorem bytesPN:(Tryz.prog.info? 59).map (·.bytes)=some 8:=by kernel_rfl
theorem sizeSlN:(Tryz.prog.info? 106).map (·.size)=some 1:=by kernel_rfl
theorem fillPN(p:Option Addr):Instr.fill (fun i=>some (i*1,1)) ((Array.range (1*1)).map ((Value.pointer none).cells[·%(Value.pointer none).cells.size]!)) [(0,.pointer p)]=some #[.pointer p]:=by kernel_rfl
def pcells(ps:Nat→Option Addr)(m:Nat):List Value:=(List.range m).map fun i=>.pointer (ps i)
theorem pcells_congr{ps ps':Nat→Option Addr}{m:Nat}(h:∀i<m,ps i=ps' i):pcells ps m=pcells ps' m:=List.map_congr_left fun i hi=>by rw[h i (List.mem_range.1 hi)]
theorem pcells_succ(ps:Nat→Option Addr)(m:Nat):pcells ps (m+1)=pcells ps m++[.pointer (ps m)]:=by simp[pcells,List.range_succ]
theorem RdN.of_own{w:World}{base n:Nat}{e:TypeId}{v:Value}{ps:Nat→Option Addr}(h:w.ownsRow base e 1 v n (pcells ps n)):∃a c,v=.slice a n c∧RdN w a n ps:=by
 rcases h.2 with ⟨hv,h0⟩ | ⟨g,cap,cur,hv,_,hg,_,_,_,htake⟩
 ·obtain rfl:n=0:=h0
  exact⟨none,0,hv,fun i hi=>absurd hi (Nat.not_lt_zero _)⟩
 ·refine⟨some ⟨g,0,none⟩,cap,hv,fun i hi=>⟨g,0,rfl,?_⟩⟩
  have hc:(pcells ps n)[i]?=some (.pointer (ps i)):=by simp[pcells,hi]
  simp only[World.cell?,hg,Option.isSome_none,Bool.false_eq_true,if_false,Nat.zero_add];rw[←htake,List.getElem?_take,if_pos (by omega)] at hc;rw[←Array.getElem?_toList];exact hc
end
section
set_option maxHeartbeats 4000000
open Go Go.RowKit
attribute [local irreducible] Inv.wpInv Mix.wpUp
theorem zJF(l r:Tr):zCH (.inner l r) 0=l:=by unfold zCH;rw[if_pos rfl];rfl
theorem childT_one(l r:Tr):zCH (.inner l r) 1=r:=by unfold zCH;rw[if_neg (by decide)];rfl
theorem insT_inner{k v:List Nat}{d:Nat}{l r:Tr}{b:Int}(hb:zDQ k (d:Nat)=b)(hb01:b=0∨b=1):zJK k v d (.inner l r)=jo k (d:Nat) (zJK k v (d+1) (zCH (.inner l r) b)) (zCH (.inner l r) (1 - b)):=by
 show (if zDQ k (d:Nat)=0 then jo k (d:Nat) (zJK k v (d+1) l) r else jo k (d:Nat) (zJK k v (d+1) r) l)=_
 rw[hb];rcases hb01 with h | h
 ·rw[h,if_pos rfl,show (1 - 0:Int)=1 from rfl,zJF,childT_one]
 ·rw[h,if_neg (by decide),show (1 - 1:Int)=0 from rfl,zJF,childT_one]
theorem four_lt{M b9 b7 b6 b4:Nat}{c9 c7 c6 c4:Array Value}{t9 t7 t6 t4:TypeId}(h:b9<M∧b7<M∧b6<M∧b4<M):∀p∈[(b9,c9,t9),(b7,c7,t7),(b6,c6,t6),(b4,c4,t4)],p.1<M:=by simp[h]
theorem StH.call'{w wx w':World}{cb:Nat}{m:Int}{L:List (Nat×Array Value×TypeId)}(st:StH w cb m L wx)(h:Below wx.heap.size wx w'):StH w cb m L w':=St.call st h
set_option maxRecDepth 20000 in
theorem wayOK_inner{k:List Nat}{d:Nat}{l r:Tr}{b:Int}(hb:zDQ k (d:Nat)=b)(hb01:b=0∨b=1)(h:wayOK k d (.inner l r)):wayOK k (d+1) (zCH (.inner l r) b):=by
 rw[wayOK] at h;have h2:=h.2;rw[hb] at h2;rcases hb01 with h | h
 ·rw[h,if_pos rfl] at h2
  rw[h,zJF];exact h2
 ·rw[h,if_neg (by decide)] at h2
  rw[h,childT_one];exact h2
set_option maxRecDepth 20000 in
theorem At_calls(KK:List Int)(k l:List Nat)(t:Tr)(p a:Option Addr)(c:Nat)(hb cb:Nat)(bits n:Int)(w:World)(hh:HasH hb cb bits n w)(hB:0≤bits∧bits≤256)(hn:0≤n∧n≤3999999999999980000)
  (hk:Key k) (hby:∀x∈l,x<256) (hl:l.length≤100000) (hv:RdB w (.slice a l.length c) l) (hK:HasK KK w) (ht:RepT KK bits w p t) (hw:wayOK k 0 t) :
  Calls Tryz.prog 90 #[.pointer (some ⟨hb,0,none⟩),.pointer p,.agg (zAV k (.slice a l.length c)),.int .i64 0] w (TPost KK bits hb cb n 2000 (zJK k l 0 t) w):=by
 have HH:=Lib.hid hh;have HV:=Lib.hid hv;have HKK:=Lib.hid hK;have HBb:=Lib.hid hB;have HNn:=Lib.hid hn;have Hk:=Lib.hid hk;have HN:=Lib.hid (fun wx h1 h2 h3=>zIR KK k l a c hb cb bits n wx h1 hB (by omega) hk hby (by omega) h2 h3);have HES:=Lib.hid (zBM k (.slice a l.length c) hk.len);have Hp6:=Lib.hid (zDJ k (.slice a l.length c) hk.len);have HBit:=Lib.hid (fun (d:Nat) wx=>zIC k hk (d:Nat) wx);have HUp:=Lib.hid (fun T p ts ps a' m c' b4 b6 b7 b9 n wx h1 h2 h3 h4 h5 h6 h7 h8 h9 h10 h11=>Up_calls KK k (.slice a l.length c) T p ts ps a' m c' b4 b6 b7 b9 hb cb bits n wx h1 hB h2 h3 hk h4 h5 h6 h7 h8 h9 h10 h11);have HPr:=Lib.hid (fun k' v' p q dp n wx h1 h2 h3 h4 h5 h6 h7=>Pair_calls KK k' v' k l p q dp hb cb bits n wx h1 hB h2 h3 h4 h5 h6 h7);have HL:=Lib.hid (show Key k∧(∀x∈l,x<256)∧l.length≤100000 from ⟨hk,hby,hl⟩);have HP:=Lib.hid (fun (w':World) (p:Option Addr) (n':Int) (T:Tr) (hr:RepT KK bits w' p T) (hT:T=zJK k l 0 t) (hg:w.grownBy w' (some cb)) (hh:HasH hb cb bits n' w') (a:n≤n') (b:n'≤n+2000)=>(show TPost KK bits hb cb n 2000 (zJK k l 0 t) w (.returned (.pointer p)) w' from ⟨p,n',rfl,hT▸hr,hg,hh,a,b⟩))
 have HI0:Hid (∀ts:Nat→Tr,zJK k l 0 t=upN k ts 0 (zJK k l 0 t) 0):=fun _=>rfl
 have HT:=Lib.hid ht;have HW:=Lib.hid hw;obtain⟨dE,hdE,haE⟩:=zFR;clear hh hv hK hB hn hk hby hl ht hw;have st:=St.init w;generalize hR:TPost KK bits hb cb n 2000 (zJK k l 0 t) w=R at *;clear hR;generalize hec:zAV k (.slice a l.length c)=ec at *;go_enter Tryz.func90,Tryz.ntmps90
 go_wp2_with (first
  |(refine zCO st rfl 29 _ rfl (.pointer (some ⟨hb,0,none⟩)) rfl ?_;intro b4 w1 st1;clear st)
  |(refine zAD st1 rfl 52 _ rfl ec rfl ?_;intro b6 w2 st2;clear st1)
  |(refine zCO st2 rfl 3 _ rfl (.int .i64 0) rfl ?_;intro b7 w3 st3;clear st2)
  |(refine zCS st3 rfl 106 rfl _ zeroSN2 ?_;intro b9 w4 st4;clear st3;have hc7:=st4.cell (i:=1) rfl 0))
 obtain⟨M,hM⟩:∃M,M=w4.heap.size:=⟨_,rfl⟩
 have HLt:Hid (b9<M∧b7<M∧b6<M∧b4<M):=by
  rw[hM];exact⟨zAG (st4.at (i:=0) rfl),zAG (st4.at (i:=1) rfl),zAG (st4.at (i:=2) rfl),zAG (st4.at (i:=3) rfl)⟩
 have HM0:Hid (w.heap.size≤M):=by rw[hM];exact st4.size
 have hM4:M≤w4.heap.size:=Nat.le_of_eq hM;clear hM
 go_loopw [1,10] (fun x d wr=>∃(j:Nat) (pj:Option Addr) (tj:Tr) (ps:Nat→Option Addr) (ts:Nat→Tr) (v':Value),x=.pointer pj∧d=.int .i64 (j:Nat)∧j≤256∧St w.heap.size w [(b9,#[v'],106),(b7,#[.int .i64 0],3),(b6,ec,52),(b4,#[.pointer (some ⟨hb,0,none⟩)],29)] wr∧wr.ownsRow M 59 1 v' j (pcells ps j)∧M≤wr.heap.size∧RepT KK bits w pj tj∧wayOK k j tj∧(∀i<j,RepT KK bits w (ps i) (ts i))∧zJK k l 0 t=upN k ts j (zJK k l j tj) j) (fun _ d _=>(256 - intOf d).toNat)
 case atStart=>exact⟨0,p,t,fun _=>none,fun _=>.nil,.slice none 0 0,rfl,rfl,by omega,st4,World.ownsRow_nil _ _ _ _,hM4,HT.out,HW.out,fun i hi=>absurd hi (Nat.not_lt_zero _),HI0.out _⟩
 case round =>
  obtain⟨j,pj,tj,ps,ts,v',rfl,rfl,hj,st5,hown,hMr,hrj,hwj,hps,hins⟩:=hrel;clear st4 hM4 hc7;obtain⟨a',c',rfl⟩:=zDN hown;have HRj:=Lib.hid hrj;have HWj:=Lib.hid hwj;have HPs:=Lib.hid hps;have HIns:=Lib.hid hins;clear hrj hwj hps hins;have hc4:=st5.cell (i:=3) rfl 0
  cases tj with
  |inner lt rt =>
   have h256:j<256:=HWj.out.1;obtain⟨b,hbb⟩:∃b:Int,zDQ k (j:Nat)=b:=⟨_,rfl⟩
   have hb01:b=0∨b=1:=by
    rw[←hbb,zJH h256]
    have:=zCQ k j;omega
   have HIx:=Lib.hid (insT_inner (v:=l) (l:=lt) (r:=rt) hbb hb01);have HWx:=Lib.hid (wayOK_inner hbb hb01 HWj.out);have HBj:=Lib.hid (HBit.out j);have HKj:Hid (∀wx,Below w.heap.size w wx→Calls Tryz.prog 39 #[.pointer pj] wx fun e w'=>e=.returned (.int .i64 2)∧w'=wx):=fun wx hb=>zBW KK bits (.inner lt rt) pj wx (HRj.out.call hb)
   rw[hbb] at HBj;generalize Tr.inner lt rt=T at *;have hb0:0≤b:=by omega
   have hb1:b≤1:=by omega
   clear hbb hb01 HWj
   go_wp2_with (first
    |(go_at_call 39;refine(HKj.out _ st5.below).mono ?_;rintro e w6 ⟨rfl,rfl⟩)
    |((with_reducible refine zBA 37 ?_);refine zAP rfl 37 _ rfl b6 0 32 rfl zBN _ _ _ (st5.at (i:=2) rfl) zBC (by rw[HES.out];decide) _ Hp6.out ?_)
    |(go_at_call 79;refine(HBj.out _).mono ?_;rintro e w7 ⟨rfl,hb7⟩;have st7:=st5.call hb7;have hown7:=zAY hown hb7;have hM7:=Nat.le_trans hMr hb7.size;clear st5 hown hMr hc4 hb7))
   have hc9:=st7.cell (i:=0) rfl 0;refine Mix.wp_region_mix 6 (fun wx=>Below w7.heap.size w7 wx) zBL (by kernel_rfl) (Below.refl _ _).drew ?_;intro F inv;refine Mix.good_batch (f:=2) F (fun _ _ h hb=>h.trans (hb.mono h.size)) [0,1,2,3] _ _ inv (by kernel_rfl) ?_;clear inv
   iterate 4
    (refine Mix.wpUp_cons rfl (fun K hK=>?_);go_simp;apply zAU;· (intro wx hw;have q1:=(fun (x:World) (h:Below w7.heap.size w7 x)=>(h.cell (zAS hc9)).trans hc9) wx hw;go_simp;(try go_ints);(try go_simp);(try (rw[if_pos (by omega)]));(try go_simp);(first | done | rfl))
     refine hK _ ?_;clear hK K)
   refine Mix.wpUp_nil ?_;intro inv;refine Mix.good_one (i:=4) (f:=1) (by kernel_rfl) inv (fun w8 hb8=>?_);clear inv;refine zAT rfl rfl 78 #[.pointer pj,.int .i64 (1 - b)] (by go_simp) ?_;refine(zDW KK bits T pj (1 - b) w w8 HRj.out (st7.below.trans (hb8.mono st7.size))).mono ?_;rintro e w9 ⟨q,rfl,hrq,hb9⟩;refine⟨_,rfl,fun wx=>Below w7.heap.size w7 wx,(fun _ _ h hb=>h.trans (hb.mono h.size)),hb8.trans (hb9.mono hb8.size),fun _ h=>h,fun inv=>?_⟩;have HRq:=Lib.hid hrq;clear hb8 hb9 hrq;refine Mix.good_one (i:=5) (f:=0) (by kernel_rfl) inv (fun w10 hb10=>?_);clear inv;refine zBQ (st7.call hb10) rfl rfl 106 1 _ rfl 59 sliceN _ 1 zeroPN zFU (by decide) (by decide) [(0,.pointer q)] (by first | (simp[Act.eval];done) | (simp[Act.eval,Act.put];done) | rfl) _ (fillPN q) ?_;intro b11 w11 st11 hb11;refine⟨fun wx=>St w.heap.size w ((b11,#[.pointer q],59)::[(b9,#[.slice a' j c'],106),(b7,#[.int .i64 0],3),(b6,ec,52),(b4,#[.pointer (some ⟨hb,0,none⟩)],29)]) wx∧Below w7.heap.size w7 wx,fun _ _ h hb=>⟨h.1.call hb,h.2.trans (hb.mono h.2.size)⟩,⟨st11,hb10.trans (hb11.mono hb10.size)⟩,fun _ h=>h.2,fun inv=>?_⟩;clear st11 hb11 hb10 inv F
   refine⟨by kernel_rfl,fun w11 ⟨st11,hb11⟩=>?_⟩;have hown11:=zAY hown7 hb11;have hM11:=Nat.le_trans hM7 hb11.size;clear st7 hown7 hM7 hb11 hc9;have HC:=Lib.hid (fun wx hb=>zDW KK bits T pj b w wx HRj.out hb);simp only[List.drop_succ_cons,List.drop_zero,Act.put,List.getElem_toArray,List.getElem_cons_succ,List.getElem_cons_zero,List.setIfInBounds_toArray,List.set_cons_succ,List.set_cons_zero]
   go_wp2_with (first
    |(at_builtin;(refine zDX (base:=M) st11.drop (.slice a' j c') (fun p hp e=>by have h1:=(hown11.lt p.1 e).1;have h2:=four_lt HLt.out p hp;omega) HM0.out rfl _ _ 106 rfl 59 _ 1 8 sliceN zeroPN zFU bytesPN rfl (by decide) j (pcells ps j) rfl hown11 b11 1 1 #[.pointer q] 59 rfl rfl (st11.at (i:=0) rfl) (fun u hu=>by obtain rfl:u=.pointer q:=(by simpa using hu);rfl) (by unfold maxLen;omega) (by omega) hM11 ?_);intro v12 w12 st12 hown12 hg12;have hM12:=Nat.le_trans hM11 hg12.size;clear st11 hown11 hM11 hg12)
    |((with_reducible refine zAN 106 ?_);refine zBD st12 rfl 106 _ _ rfl 0 b9 0 rfl v12 rfl _ _ rfl sizeSlN (zDO hown12) Nat.one_pos (own_one hown12) _ rfl _ rfl ?_;intro w13 st13 hg13;have hown13:=zEQ hown12 hg13 HLt.out.1;have hM13:=Nat.le_trans hM12 hg13.size;clear st12 hown12 hM12 hg13)
    |(go_at_call 78;refine(HC.out _ st13.below).mono ?_;rintro e w14 ⟨pc,rfl,hrc,hb14⟩;have st14:=st13.call hb14;have hown14:=zAY hown13 hb14;have hM14:=Nat.le_trans hM13 hb14.size;clear st13 hown13 hM13 hb14))
   go_roundw
   case rel =>
    refine⟨j+1,pc,zCH T b,fun i=>if i=j then q else ps i,fun i=>if i=j then zCH T (1 - b) else ts i,v12,rfl,rfl,by omega,st14,?_,hM14,hrc,HWx.out,?_,?_⟩
    ·rw[pcells_succ,if_pos rfl,pcells_congr (ps':=ps) (fun i hi=>if_neg (by omega))]
     exact hown14
    ·intro i hi
     show RepT KK bits w (if i=j then q else ps i) (if i=j then zCH T (1 - b) else ts i)
     by_cases h:i=j
     ·rw[if_pos h,if_pos h]
      exact HRq.out
     ·rw[if_neg h,if_neg h]
      exact HPs.out i (by omega)
    ·rw[HIns.out,upN_snoc,HIx.out,if_pos rfl]
     exact upN_congr (fun i hi=>(if_neg (by omega)).symm) j (Nat.le_refl _)
   case measure=>simp[intOf];omega
  |nil =>
   obtain rfl:pj=none:=HRj.out;have HKj:Hid (∀wx,Below w.heap.size w wx→Calls Tryz.prog 39 #[.pointer none] wx fun e w'=>e=.returned (.int .i64 0)∧w'=wx):=fun wx _=>zDT wx
   have st6:=StH.init HH.out st5
   go_wp2_with (first
    |(go_at_call 39;refine(HKj.out _ st5.below).mono ?_;rintro e w6 ⟨rfl,rfl⟩)
    |((with_reducible refine zBA 52 ?_);refine zAC rfl 52 _ rfl b6 rfl _ hdE haE _ _ (st5.at (i:=2) rfl) (by rw[HES.out];exact zDB) ?_)
    |(go_at_call 143;refine(HN.out _ (StH.has st6 HH.out) (StH.rd st6 HH.out HV.out) (StH.hasK st6 HH.out HKK.out)).mono ?_;rintro e w7 ⟨nb,a2,c2,rfl,hnb,hrow,hrd,hg,hh7⟩;have st7:=StH.sum st6 HH.out hg hh7;have hown7:=zEQ hown hg (Nat.lt_of_lt_of_le (zAG HH.out.c) HM0.out);have hrl:RepT KK bits w7 (some ⟨nb,0,none⟩) (.leaf k l):=⟨nb,a2,c2,rfl,hrow,hrd,HL.out⟩;clear st6 st5 hown hg hh7 hrow hrd hnb hMr))
   refine Inv.wp_region_inv 11 (fun wx=>Below w7.heap.size w7 wx) zBL (by kernel_rfl) (Below.refl _ _).drew ?_;simp only[List.take_succ_cons,List.take_zero,List.drop_succ_cons,List.drop_zero]
   iterate 1
    (refine Inv.wpInv_step (fun K hK=>?_);go_simp;apply zAL;· (intro wx hw;go_simp;(try go_ints);(try go_simp);(try (rw[if_pos (by omega)]));(try go_simp);(first | done | rfl))
     refine hK _ ?_;clear hK K)
   (refine Inv.wpInv_step (fun K hK=>?_);go_simp;refine⟨.int .i64 0,zDM 39 #[.pointer none] (fun wx _=>by go_simp) (fun wx hw=>(zDT wx).mono (fun e w' h=>⟨h.1,h.2▸hw⟩)),?_⟩
    refine hK _ ?_;clear hK K)
   iterate 2
    (refine Inv.wpInv_step (fun K hK=>?_);go_simp;apply zAL;· (intro wx hw;go_simp;(try go_ints);(try go_simp);(try (rw[if_pos (by omega)]));(try go_simp);(first | done | rfl))
     refine hK _ ?_;clear hK K)
   iterate 6 (refine Inv.wpInv_step (fun K hK=>?_);go_simp;refine hK _ ?_;clear hK K)
   iterate 1
    (refine Inv.wpInv_step (fun K hK=>?_);go_simp;apply zAL;· (intro wx hw;go_simp;(try go_ints);(try go_simp);(try (rw[if_pos (by omega)]));(try go_simp);(first | done | rfl))
     refine hK _ ?_;clear hK K)
   refine Inv.wpInv_nil ?_;intro w8 hb8;have st8:=StH.call' st7 hb8;have hown8:=zAY hown7 hb8;have Hrl8:=Lib.hid (hrl.call hb8);have hc4:w8.cell? ⟨b4,0,none⟩=some (.pointer (some ⟨hb,0,none⟩)):=st8.cell (i:=3) rfl 0;clear st7 hown7 hrl hb8;obtain⟨a3,c3,e3,hrdn⟩:=RdN.of_own hown8;obtain⟨rfl,rfl⟩:a'=a3∧c'=c3:=by injection e3 with h1 h2 h3;exact⟨h1,h3⟩
   have HUp8:=Lib.hid (HUp.out _ (some ⟨nb,0,none⟩) ts ps a' j c' b4 b6 b7 b9 (n+2) w8 (StH.has st8 HH.out) (by have:=HNn.out;omega) (StH.hasK st8 HH.out HKK.out) hj (st8.cell (i:=0) rfl 0) (st8.at (i:=3) rfl) (st8.at (i:=2) rfl) (st8.at (i:=1) rfl) hrdn (fun i hi=>StH.rep st8 HH.out (HPs.out i hi)) Hrl8.out);clear hrdn hown8
   go_wp2_with (first
    |(go_at_call 140;refine HUp8.out.mono ?_;rintro e w10 ⟨p10,n10,rfl,hr10,hg10,hh10,ha10,hb10⟩;have st10:=StH.sum st8 HH.out hg10 hh10;clear st8 hg10 hh10))
   exact HP.out _ _ _ _ hr10 HIns.out.symm (StH.grown st10) (StH.has st10 HH.out) (by omega) (by omega)
  |leaf k' v2 =>
   have hkk':Key k':=by obtain⟨_,_,_,_,_,_,h,_⟩:=HRj.out;exact h
   have HKj:Hid (∀wx,RepT KK bits wx pj (.leaf k' v2)→Calls Tryz.prog 39 #[.pointer pj] wx fun e w'=>e=.returned (.int .i64 1)∧w'=wx):=fun wx h=>zBW KK bits (.leaf k' v2) pj wx h
   have HLf:=Lib.hid (fun wx h=>zGF KK bits (.leaf k' v2) pj wx h);have Hx:Hid ((zFW KK bits (.leaf k' v2)).length=64∧(zFW KK bits (.leaf k' v2)).take 32=k'):=⟨zJC HRj.out,List.take_left' hkk'.len⟩
   have hq:=eqlKey k' k hkk'.len Hk.out.len;have hgk:=zIP;have st6:=StH.init HH.out st5
   go_wp2_with (first
    |(go_at_call 39;refine(HKj.out _ (HRj.out.call st5.below)).mono ?_;rintro e w6 ⟨rfl,rfl⟩)
    |((with_reducible refine zBA 52 ?_);refine zAC rfl 52 _ rfl b6 rfl _ hdE haE _ _ (st5.at (i:=2) rfl) (by rw[HES.out];exact zDB) ?_)
    |(go_at_call 143;refine(HN.out _ (StH.has st6 HH.out) (StH.rd st6 HH.out HV.out) (StH.hasK st6 HH.out HKK.out)).mono ?_;rintro e w7 ⟨nb,a2,c2,rfl,hnb,hrow,hrd,hg,hh7⟩;have st7:=StH.sum st6 HH.out hg hh7;have hown7:=zEQ hown hg (Nat.lt_of_lt_of_le (zAG HH.out.c) HM0.out);have hrl:RepT KK bits w7 (some ⟨nb,0,none⟩) (.leaf k l):=⟨nb,a2,c2,rfl,hrow,hrd,HL.out⟩;clear st6 st5 hown hg hh7 hrow hrd hnb hMr))
   have hr7:=StH.rep st7 HH.out HRj.out;have hcs:=st7.at (i:=2) rfl;have hf:=fun wx=>zIB (zFW KK bits (.leaf k' v2)) Hx.out.1 wx
   rw[Hx.out.2] at hf;have Hr7:=Lib.hid hr7;clear hr7;generalize zFW KK bits (.leaf k' v2)=X at *;refine Inv.wp_region_inv 11 (fun wx=>Below w7.heap.size w7 wx) zBL (by kernel_rfl) (Below.refl _ _).drew ?_;simp only[List.take_succ_cons,List.take_zero,List.drop_succ_cons,List.drop_zero]
   iterate 1
    (refine Inv.wpInv_step (fun K hK=>?_);go_simp;apply zAL;· (intro wx hw;go_simp;(try go_ints);(try go_simp);(try (rw[if_pos (by omega)]));(try go_simp);(first | done | rfl))
     refine hK _ ?_;clear hK K)
   (refine Inv.wpInv_step (fun K hK=>?_);go_simp;refine⟨.int .i64 1,zDM 39 #[.pointer pj] (fun wx _=>by go_simp) (fun wx hw=>(HKj.out wx (Hr7.out.call hw)).mono (fun e w' h=>⟨h.1,h.2▸hw⟩)),?_⟩
    refine hK _ ?_;clear hK K)
   iterate 3
    (refine Inv.wpInv_step (fun K hK=>?_);go_simp;apply zAL;· (intro wx hw;go_simp;(try go_ints);(try go_simp);(try (rw[if_pos (by omega)]));(try go_simp);(first | done | rfl))
     refine hK _ ?_;clear hK K)
   (refine Inv.wpInv_step (fun K hK=>?_);go_simp;refine⟨.agg (kv X),zDM 40 #[.pointer pj] (fun wx _=>by go_simp) (fun wx hw=>(HLf.out wx (Hr7.out.call hw)).mono (fun e w' h=>⟨h.1,hw.trans (h.2.mono hw.size)⟩)),?_⟩
    refine hK _ ?_;clear hK K)
   (refine Inv.wpInv_step (fun K hK=>?_);go_simp;apply zAL;· (intro wx hw;have q1:=hf wx;go_simp;(first | done | rfl))
    refine hK _ ?_;clear hK K)
   iterate 1
    (refine Inv.wpInv_step (fun K hK=>?_);go_simp;apply zAL;· (intro wx hw;go_simp;(try go_ints);(try go_simp);(try (rw[if_pos (by omega)]));(try go_simp);(first | done | rfl))
     refine hK _ ?_;clear hK K)
   (refine Inv.wpInv_step (fun K hK=>?_);go_simp;refine inv_loadP 37 _ rfl b6 0 32 rfl zBN _ _ (fun wx hw=>(hw.block b6 (zAG hcs)).trans hcs) zBC (by rw[HES.out];decide) _ Hp6.out ?_
    refine hK _ ?_;clear hK K)
   cases hd:decide (k'=k)
   ·rw[hd] at hq
    have hne:k'≠k:=by simpa using hd
    iterate 2
     (refine Inv.wpInv_step (fun K hK=>?_);go_simp;apply zAL;· (intro wx hw;go_simp;(try go_ints);(try go_simp);(try (rw[if_pos (by omega)]));(try go_simp);(first | done | rfl))
      refine hK _ ?_;clear hK K)
    refine Inv.wpInv_nil ?_;intro w8 hb8;have st8:=StH.call' st7 hb8;have hown8:=zAY hown7 hb8;have Hrl8:=Lib.hid (hrl.call hb8);have hc4:w8.cell? ⟨b4,0,none⟩=some (.pointer (some ⟨hb,0,none⟩)):=st8.cell (i:=3) rfl 0;have HRj8:=Lib.hid (StH.rep st8 HH.out HRj.out);clear st7 hown7 hrl hb8;obtain⟨a3,c3,e3,hrdn⟩:=RdN.of_own hown8;obtain⟨rfl,rfl⟩:a'=a3∧c'=c3:=by injection e3 with h1 h2 h3;exact⟨h1,h3⟩
    have hcm:=comN_lt hkk' Hk.out hne;have hjc:j≤zEX k' k:=HWj.out hne;have hn8:=HNn.out;have HPj:=Lib.hid (HPr.out k' v2 pj (some ⟨nb,0,none⟩) j (n+2) w8 (StH.has st8 HH.out) (by omega) (StH.hasK st8 HH.out HKK.out) HRj8.out Hrl8.out hjc hcm);have Hrdn:=Lib.hid hrdn;have HT2:Hid (∀i<j,RepT KK bits w8 (ps i) (ts i)):=fun i hi=>StH.rep st8 HH.out (HPs.out i hi)
    clear hrdn hown8 hn8 hcm hjc
    go_wp2_with (first
     |(go_at_call 144;refine HPj.out.mono ?_;rintro e w9 ⟨p9,n9,rfl,hr9,hg9,hh9,ha9,hb9'⟩;have st9:=StH.sum st8 HH.out hg9 hh9;have hrdn9:=Hrdn.out.turn (StH.has st8 HH.out) hg9;have hT9:∀i<j,RepT KK bits w9 (ps i) (ts i):=fun i hi=>(HT2.out i hi).turn (StH.has st8 HH.out) hg9;clear st8 hg9 hh9)
     |(go_at_call 140;refine(HUp.out _ p9 ts ps a' j c' b4 b6 b7 b9 n9 _ (StH.has st9 HH.out) (by have:=HNn.out;omega) (StH.hasK st9 HH.out HKK.out) hj (st9.cell (i:=0) rfl 0) (st9.at (i:=3) rfl) (st9.at (i:=2) rfl) (st9.at (i:=1) rfl) hrdn9 hT9 hr9).mono ?_;rintro e w10 ⟨p10,n10,rfl,hr10,hg10,hh10,ha10,hb10⟩;have st10:=StH.sum st9 HH.out hg10 hh10;clear st9 hg10 hh10))
    exact HP.out _ _ _ _ hr10 (HIns.out.trans (by show upN k ts j (zJK k l j (.leaf k' v2)) j=_;unfold zJK;rw[if_neg hne])).symm (StH.grown st10) (StH.has st10 HH.out) (by omega) (by omega)
   ·rw[hd] at hq
    have hne:Hid (k'=k):=by unfold Hid;simpa using hd
    iterate 2
     (refine Inv.wpInv_step (fun K hK=>?_);go_simp;apply zAL;· (intro wx hw;go_simp;(try go_ints);(try go_simp);(try (rw[if_pos (by omega)]));(try go_simp);(first | done | rfl))
      refine hK _ ?_;clear hK K)
    refine Inv.wpInv_nil ?_;intro w8 hb8;have st8:=StH.call' st7 hb8;have hown8:=zAY hown7 hb8;have Hrl8:=Lib.hid (hrl.call hb8);have hc4:w8.cell? ⟨b4,0,none⟩=some (.pointer (some ⟨hb,0,none⟩)):=st8.cell (i:=3) rfl 0;clear st7 hown7 hrl hb8;obtain⟨a3,c3,e3,hrdn⟩:=RdN.of_own hown8;obtain⟨rfl,rfl⟩:a'=a3∧c'=c3:=by injection e3 with h1 h2 h3;exact⟨h1,h3⟩
    have HUp8:=Lib.hid (HUp.out _ (some ⟨nb,0,none⟩) ts ps a' j c' b4 b6 b7 b9 (n+2) w8 (StH.has st8 HH.out) (by have:=HNn.out;omega) (StH.hasK st8 HH.out HKK.out) hj (st8.cell (i:=0) rfl 0) (st8.at (i:=3) rfl) (st8.at (i:=2) rfl) (st8.at (i:=1) rfl) hrdn (fun i hi=>StH.rep st8 HH.out (HPs.out i hi)) Hrl8.out);clear hrdn hown8
    go_wp2_with (first
     |(go_at_call 140;refine HUp8.out.mono ?_;rintro e w10 ⟨p10,n10,rfl,hr10,hg10,hh10,ha10,hb10⟩;have st10:=StH.sum st8 HH.out hg10 hh10;clear st8 hg10 hh10))
    exact HP.out _ _ _ _ hr10 (HIns.out.trans (by show upN k ts j (zJK k l j (.leaf k' v2)) j=_;unfold zJK;rw[if_pos hne.out])).symm (StH.grown st10) (StH.has st10 HH.out) (by omega) (by omega)
end
section
set_option maxHeartbeats 2000000
open Go Go.RowKit
attribute [local irreducible] Inv.wpInv Mix.wpUp
attribute [local go_sem] Oper.semAt_some
def endT(k:List Nat):Nat→Tr→Tr
 |_,.nil=>.nil
 |_,.leaf k' v=>.leaf k' v
 |d,.inner l r=>if zDQ k (d:Nat)=0 then endT k (d+1) l else endT k (d+1) r
def sibT(k:List Nat):Nat→Tr→List Tr
 |_,.nil=>[]
 |_,.leaf _ _=>[]
 |d,.inner l r=>if zDQ k (d:Nat)=0 then r::sibT k (d+1) l else l::sibT k (d+1) r
structure WayN (k:List Nat)(t:Tr)(d m:Nat)(nd:Nat→Tr):Prop where
 zero:nd 0=t
 le:d+m≤256
 step:∀j<m,zBZ (nd j)=2∧nd (j+1)=zCH (nd j) (zDQ k ((d+j:Nat):Int))
 last:zBZ (nd m)≠2
 endd:nd m=endT k d t
 len:m=(sibT k d t).length
 sib:∀j<m,(sibT k d t).getD j .nil=zCH (nd j) (1 - zDQ k ((d+j:Nat):Int))
set_option maxRecDepth 20000 in
theorem way_ex(k:List Nat):∀(t:Tr)(d:Nat),d≤256→wayOK k d t→∃m nd,WayN k t d m nd
 |.nil,d,hd,_=>⟨0,fun _=>.nil,rfl,by omega,fun j hj=>absurd hj (Nat.not_lt_zero _),by simp[zBZ],rfl,rfl,fun j hj=>absurd hj (Nat.not_lt_zero _)⟩
 |.leaf k' v,d,hd,_=>⟨0,fun _=>.leaf k' v,rfl,by omega,fun j hj=>absurd hj (Nat.not_lt_zero _),by simp[zBZ],rfl,rfl,fun j hj=>absurd hj (Nat.not_lt_zero _)⟩
 |.inner l r,d,hd,hw=>by
  have hd':d<256:=by rw[wayOK] at hw;exact hw.1
  have hb:zDQ k (d:Nat)=0∨zDQ k (d:Nat)=1:=by
   rw[zJH hd']
   have:=zCQ k d;omega
  have key:∀(c s:Tr),c=zCH (.inner l r) (zDQ k (d:Nat))→s=zCH (.inner l r) (1 - zDQ k (d:Nat))→endT k d (.inner l r)=endT k (d+1) c→sibT k d (.inner l r)=s::sibT k (d+1) c→(∃m nd,WayN k c (d+1) m nd)→∃m nd,WayN k (.inner l r) d m nd:=by
   rintro c s hc hs he hsb ⟨m,nd,h⟩;refine⟨m+1,fun j=>match j with | 0=>.inner l r | j+1=>nd j,rfl,by have:=h.le;omega,?_,h.last,?_,?_,?_⟩
   ·intro j hj
    rcases j with _ | j
    ·refine⟨rfl,?_⟩
     show nd 0=zCH (.inner l r) (zDQ k ((d+0:Nat):Int))
     rw[h.zero];exact hc
    ·have:=h.step j (by omega)
     rw[show d+1+j=d+(j+1) by omega] at this;exact this
   ·show nd m=_
    rw[he];exact h.endd
   ·rw[hsb,List.length_cons,←h.len]
   ·intro j hj
    rw[hsb];rcases j with _ | j
    ·exact hs
    ·have:=h.sib j (by omega)
     rw[show d+1+j=d+(j+1) by omega] at this
     simpa using this
  rcases hb with hb | hb
  ·refine key l r (by rw[hb];rfl) (by rw[hb];rfl) (by show (if zDQ k (d:Nat)=0 then endT k (d+1) l else endT k (d+1) r)=_;rw[if_pos hb]) (by show (if _ then _ else _)=_;rw[if_pos hb]) (way_ex k l (d+1) (by omega) ?_)
   have:=wayOK_inner hb (.inl rfl) hw
   rwa [zJF] at this
  ·have hb':¬zDQ k (d:Nat)=0:=by omega
   refine key r l (by rw[hb];rfl) (by rw[hb];rfl) (by show (if _ then _ else _)=_;rw[if_neg hb']) (by show (if _ then _ else _)=_;rw[if_neg hb']) (way_ex k r (d+1) (by omega) ?_)
   have:=wayOK_inner hb (.inr rfl) hw
   rwa [childT_one] at this
set_option maxRecDepth 100000 in
theorem wayT_in(KK:List Int)(bits:Int)(k:List Nat)(hk:Key k)(t:Tr)(w0:World)(n l Bn Bk m:Nat)(nd:Nat→Tr)(hW:WayN k t 0 m nd)(hn:1≤n)
  (A D:Nat→Option Addr→World→Prop)
  (hbel:∀j p W,D j p W→Below w0.heap.size w0 W)
  (hAc:∀j p W,A j p W→W.cell? ⟨Bn,0,none⟩=some (.pointer p))
  (hDr:∀j p W,D j p W→W.heap[Bn]?=some (.cells #[.pointer p] 59 (0,0)))
  (hDk:∀j p W,D j p W→W.heap[Bk]?=some (.cells (kv k) 37 (0,0)))
  (hDb:∀j p W W',D j p W→Below W.heap.size W W'→D j p W')
  (hDA:∀j p q W W',j<m→D j p W→W.grownBy W' (some Bn)→W'.heap[Bn]?=some (.cells #[.pointer q] 59 (0,0))→A (j+1) q W')
  (hY:∀j p W,j≤m→RepT KK bits w0 p (nd j)→A j p W→YieldAt Fence.wide (n - 1) Tryz.prog l #[.int .i64 (j:Nat),.pointer p] W (fun e W'=>e=.returned (.bool true)∧D j p W'))
  (W:World) (p0:Option Addr) (h0:A 0 p0 W) (hr0:RepT KK bits w0 p0 t) :
  CallsIn Fence.wide n Tryz.prog 122 #[.func (.yield l) #[] #[],.pointer (some ⟨Bn,0,none⟩),.pointer (some ⟨Bk,0,none⟩)] W (fun e W'=>(∃v,e=.returned v)∧∃p,RepT KK bits w0 p (nd m)∧D m p W'):=by
 have hm:=hW.le;have Hk:=Lib.hid hk.len;have HBit:=Lib.hid (fun (j:Nat) wx=>zIC k hk (j:Nat) wx);refine callsIn_of_wp Tryz.func122 rfl trivial ?_ rfl;simp only[Tryz.ntmps122,List.size_toArray,List.length_cons,List.length_nil,Nat.reduceAdd,Nat.reduceSub,Array.replicate_succ,Array.replicate_zero,List.push_toArray,List.append_toArray,List.nil_append,List.cons_append]
 gi_wp2
 gi_loopw [4] (fun i wr=>∃(j:Nat) (p:Option Addr),j≤m∧i=.int .i64 (j:Nat)∧RepT KK bits w0 p (nd j)∧A j p wr) (fun i _=>(256 - intOf i).toNat)
 case atStart=>exact⟨0,p0,Nat.zero_le _,rfl,by rw[hW.zero];exact hr0,h0⟩
 case round =>
  obtain⟨j,p,hj,rfl,hr,hA⟩:=hrel;have hc:=hAc j p wr hA;have hY':=hY j p wr hj hr hA;obtain⟨fn,tmps,assign,body,hy,hR⟩:=hY';have HR:=Lib.hid hr;clear hr hA
  gi_wp2
  refine hR.mono ?_;rintro e W3 ⟨rfl,hD⟩;have hb3:=hbel _ _ _ hD;have hr3:=hDr _ _ _ hD;have hk3:=hDk _ _ _ hD;have hc3:W3.cell? ⟨Bn,0,none⟩=some (.pointer p):=by simp[World.cell?,hr3]
  clear hc
  by_cases hlt:j<m
  ·have HKd:Hid (Calls Tryz.prog 39 #[.pointer p] W3 fun e w'=>e=.returned (.int .i64 2)∧w'=W3):=by
    have:=zBW KK bits (nd j) p W3 (HR.out.call hb3)
    rwa [(hW.step j hlt).1] at this
   gi_wp2_with (first
    |(refine And.intro trivial ?_;gi_at_call 39;refine(callsIn_wide.2 HKd.out).mono ?_;rintro e w4 ⟨rfl,rfl⟩))
   have hst:=(hW.step j hlt).2;rw[Nat.zero_add] at hst;have hup:Mix.Up (D j p):=fun wx wy h hb=>hDb j p wx wy h hb
   have q:∀wx,D j p wx→wx.cell? ⟨Bn,0,none⟩=some (.pointer p):=fun wx h=>by
    have:=hDr _ _ _ h;simp[World.cell?,this]
   refine wpIn_wide.2 ?_;refine Mix.wp_region_mix 5 (D j p) zBL (by kernel_rfl) (hDb _ _ _ _ hD (Below.refl _ _).drew) ?_;intro F inv;refine Mix.good_batch (f:=1) F hup [0,1,2,3] _ _ inv (by kernel_rfl) ?_;clear inv
   iterate 1
    (refine Mix.wpUp_cons rfl (fun K hK=>?_);go_simp;apply zAU;· (intro wx hw;have q1:=q wx hw;go_simp;(try go_ints);(try go_simp);(try (rw[if_pos (by omega)]));(try go_simp);(first | done | rfl))
     refine hK _ ?_;clear hK K)
   (refine Mix.wpUp_cons rfl (fun K hK=>?_);go_simp;refine zFB 37 _ rfl Bk rfl _ zBF rfl _ _ (fun wx hw=>hDk _ _ _ hw) (zAX Hk.out) ?_
    refine hK _ ?_;clear hK K)
   iterate 1
    (refine Mix.wpUp_cons rfl (fun K hK=>?_);go_simp;apply zAU;· (intro wx hw;go_simp;(try go_ints);(try go_simp);(try (rw[if_pos (by omega)]));(try go_simp);(first | done | rfl))
     refine hK _ ?_;clear hK K)
   (refine Mix.wpUp_cons rfl (fun K hK=>?_);go_simp;refine zER 79 #[.agg (kv k),.int .i64 (j:Nat)] ?_ (fun wx stx=>HBit.out j wx) ?_;· (intro wx hw;go_simp)
    refine hK _ ?_;clear hK K)
   refine Mix.wpUp_nil ?_;intro inv;refine Mix.good_one (i:=4) (f:=0) (by kernel_rfl) inv (fun w5 hD5=>?_);clear inv;refine zAT rfl rfl 78 #[.pointer p,.int .i64 (zDQ k (j:Nat))] (by go_simp) ?_;refine(zDW KK bits (nd j) p _ w0 w5 HR.out (hbel _ _ _ hD5)).mono ?_;rintro e w6 ⟨q2,rfl,hrq,hb6⟩;refine⟨_,rfl,D j p,hup,hDb _ _ _ _ hD5 hb6,fun _ h=>h,fun inv=>?_⟩;have HRq:=Lib.hid (hst▸hrq);clear hD5 hb6 inv F hrq;refine⟨by kernel_rfl,fun w7 hD7=>?_⟩;have hr7:=hDr _ _ _ hD7;simp only[List.drop_succ_cons,List.drop_zero,Act.put,List.getElem_toArray,List.getElem_cons_succ,List.getElem_cons_zero,List.setIfInBounds_toArray,List.set_cons_succ,List.set_cons_zero]
   go_wp2_with (first
    |((with_reducible refine zAN 59 ?_);refine zDR rfl 59 _ _ rfl Bn 0 rfl (.pointer q2) rfl _ _ hr7 zFU rfl Nat.one_pos rfl _ rfl ?_;intro w8 hg8 hrow8))
   gi_wp2
   refine⟨⟨j+1,q2,hlt,rfl,HRq.out,hDA _ _ _ _ _ hlt hD7 hg8 hrow8⟩,?_⟩;simp only[intOf];omega
  ·obtain rfl:j=m:=by omega
   have hkn:=hW.last;have HKd:=Lib.hid (zBW KK bits (nd j) p W3 (HR.out.call hb3));have hkb:(zBZ (nd j)==2)=false:=by simp[hkn]
   gi_wp2_with (first
    |(refine And.intro trivial ?_;gi_at_call 39;refine(callsIn_wide.2 HKd.out).mono ?_;rintro e w4 ⟨rfl,rfl⟩))
   go_end0
   exact⟨⟨_,rfl⟩,p,HR.out,hD⟩
end
section
set_option maxHeartbeats 4000000
open Go Go.RowKit
attribute [local irreducible] Inv.wpInv Mix.wpUp
attribute [local go_sem] Oper.semAt_some
set_option maxRecDepth 100000 in
theorem LocateT_calls(KK:List Int)(bits:Int)(k:List Nat)(hk:Key k)(t:Tr)(p:Option Addr)(w:World)(ht:RepT KK bits w p t)(m:Nat)(nd:Nat→Tr)(hW:WayN k t 0 m nd) :
  Calls Tryz.prog 38 #[.pointer p,.agg (kv k)] w fun e w'=>∃q,e=.returned (.tuple #[.pointer q,.int .i64 (m:Nat)])∧RepT KK bits w q (nd m)∧Below w.heap.size w w':=by
 have Hk:=Lib.hid hk.len;have HT:=Lib.hid ht;have hm:=hW.le;have HW:=Lib.hid hW;clear ht hW;have st:=St.init w;refine(callsIn_wide (n:=3)).1 ?_;refine callsIn_of_wp_marks Tryz.func38 rfl trivial ?_ rfl;simp only[Tryz.ntmps38,List.size_toArray,List.length_cons,List.length_nil,Nat.reduceAdd,Nat.reduceSub,Array.replicate_succ,Array.replicate_zero,List.push_toArray,List.append_toArray,List.nil_append,List.cons_append];refine wpIn_wide.2 ?_
 go_wp2_with (first
  |(refine zAD st rfl 37 _ rfl _ rfl ?_;intro b3 w1 st1;clear st)
  |(refine zCS st1 rfl 59 rfl _ zeroPN ?_;intro b4 w2 st2;clear st1)
  |(refine zCS st2 rfl 3 rfl _ zeroI64 ?_;intro b5 w3 st3;clear st2)
  |(refine zAC rfl 37 _ rfl b3 rfl _ zBF rfl _ _ (st3.at (i:=2) rfl) (zAX Hk.out) ?_)
  |(go_at_call 76;refine(way_calls p k _).mono ?_;rintro e w4 ⟨Bn,Bk,rfl,stw⟩))
 have st5:St w.heap.size w ((Bk,kv k,37)::(Bn,#[.pointer p],59)::(b5,#[.int .i64 0],3)::(b4,#[.pointer none],59)::(b3,kv k,37)::[]) w4:=st3.join stw;clear st3 stw;have hBn:Bn<w4.heap.size:=zAG (st5.at (i:=1) rfl);have hb5:b5<w4.heap.size:=zAG (st5.at (i:=2) rfl);have hb4:b4<w4.heap.size:=zAG (st5.at (i:=3) rfl);have hwS:=st5.size;refine wpIn_wide.1 (zFV (F:=Fence.wide) (n:=3) rfl (by omega) (gf:=122) (lb:=#[.pointer (some ⟨Bn,0,none⟩),.pointer (some ⟨Bk,0,none⟩)]) rfl trivial (enters_of Tryz.func122 (by kernel_rfl) rfl) ?_);intro rd1 bs1 W1 hW1 hY1;have hbelW1:Below w4.heap.size w4 W1:=by rw[hW1];exact((Below.refl _ w4).alloc (Nat.le_refl _) _).alloc (by simp) _
 have hrec1:W1.heap[w4.heap.size+1]?=some (.loop rd1):=by
  rw[hW1];have:=World.alloc_heap_new (w4.alloc (.deferred (some []))) (.loop rd1);rwa [World.size_alloc] at this
 have hdef1:W1.heap[w4.heap.size]?=some (.deferred (some [])):=by
  rw[hW1];exact(Below.heap_alloc _ _ _ (by simp)).trans (World.alloc_heap_new w4 _)
 have st6:=St.call st5 hbelW1;clear st5 hbelW1 hW1;obtain⟨D,hD⟩:∃D:Nat→Option Addr→World→Prop,∀j p W,D j p W↔St w.heap.size w [(Bk,kv k,37),(Bn,#[.pointer p],59),(b5,#[.int .i64 (j:Nat)],3),(b4,#[.pointer p],59),(b3,kv k,37)] W∧W.heap[w4.heap.size+1]?=some (.loop rd1)∧W.heap[w4.heap.size]?=some (.deferred (some [])):=⟨_,fun _ _ _=>Iff.rfl⟩
 obtain⟨A,hA⟩:∃A:Nat→Option Addr→World→Prop,∀j p W,A j p W↔∃(v4:Option Addr) (v5:Int),St w.heap.size w [(Bk,kv k,37),(Bn,#[.pointer p],59),(b5,#[.int .i64 v5],3),(b4,#[.pointer v4],59),(b3,kv k,37)] W∧W.heap[w4.heap.size+1]?=some (.loop rd1)∧W.heap[w4.heap.size]?=some (.deferred (some [])):=⟨_,fun _ _ _=>Iff.rfl⟩
 have HD:=Lib.hid hD;have HA:=Lib.hid hA;clear hD hA;have hA0:A 0 p W1:=(HA.out 0 p W1).2 ⟨none,0,st6,hrec1,hdef1⟩;clear st6 hrec1 hdef1;have hYi:∀j q W,j≤m→RepT KK bits w q (nd j)→A j q W→YieldAt Fence.wide (2 - 1) Tryz.prog (w4.heap.size+1) #[.int .i64 (j:Nat),.pointer q] W (fun e W'=>e=.returned (.bool true)∧D j q W'):=by
  intro j q W hj hr hAW;obtain⟨v4,v5,stW,hrec,hdef⟩:=(HA.out j q W).1 hAW;clear hAW hA0 hr;refine hY1 #[.int .i64 (j:Nat),.pointer q] W _ rfl hrec ?_;refine wpIn_seq ?_;refine zEJ (fun h=>by obtain⟨_,_,h⟩:=h;exact h.elim) (by decide) ?_;go_simp;go_wp2;refine zEJ (fun h=>by obtain⟨_,_,h⟩:=h;exact h.elim) (by decide) ?_;go_simp;go_wp2;refine⟨hrec,?_⟩;have stc:=stW.putNC (o':=.loop bs1) (by omega) hrec rfl;have hrecc:(W.putObj (w4.heap.size+1) (.loop bs1)).heap[w4.heap.size+1]?=some (.loop bs1):=World.putObj_heap_same (zAG hrec);have hdefc:=(World.putObj_heap_other (w:=W) (o:=.loop bs1) (by omega:w4.heap.size≠w4.heap.size+1)).trans hdef;generalize W.putObj (w4.heap.size+1) (.loop bs1)=wc at *;clear hrec hdef stW;refine wpIn_block ?_;refine zEJ (fun h=>by obtain⟨_,_,h⟩:=h;exact absurd h.1 (by simp)) (by decide) ?_
  go_wp2_with (first
   |((with_reducible refine zAN 59 ?_);refine zBD stc rfl 59 _ _ rfl 3 b4 0 rfl (.pointer q) rfl _ _ rfl zFU rfl Nat.one_pos rfl _ rfl _ rfl ?_;intro w8 st8 hg8;clear stc)
   |((with_reducible refine zAN 3 ?_);refine zBD st8 rfl 3 _ _ rfl 2 b5 0 rfl (.int .i64 (j:Nat)) rfl _ _ rfl sizeI64 rfl Nat.one_pos rfl _ rfl _ rfl ?_;intro w9 st9 hg9;clear st8))
  have hrec9:=(hg9.block _ (by have:=hg8.size;have:=zAG hrecc;omega) (fun e=>by have:=Option.some.inj e;omega)).trans ((hg8.block _ (zAG hrecc) (fun e=>by have:=Option.some.inj e;omega)).trans hrecc);have hdef9:=(hg9.block _ (by have:=hg8.size;have:=zAG hdefc;omega) (fun e=>by have:=Option.some.inj e;omega)).trans ((hg8.block _ (zAG hdefc) (fun e=>by have:=Option.some.inj e;omega)).trans hdefc);exact⟨trivial,hrec9,(HD.out j q _).2 ⟨st9.putNC (by omega) hrec9 rfl,World.putObj_heap_same (zAG hrec9),(World.putObj_heap_other (by omega)).trans hdef9⟩⟩
 refine(wayT_in KK bits k hk t w 2 (w4.heap.size+1) Bn Bk m nd HW.out (by omega) A D (fun j q W h=>((HD.out j q W).1 h).1.below) (fun j q W h=>by
  obtain⟨v4,v5,stW,_⟩:=(HA.out j q W).1 h;exact stW.cell (i:=1) rfl 0) (fun j q W h=>((HD.out j q W).1 h).1.at (i:=1) rfl) (fun j q W h=>((HD.out j q W).1 h).1.at (i:=0) rfl)
  (fun j q W W' h hb=>by
   obtain⟨h1,h2,h3⟩:=(HD.out j q W).1 h;exact(HD.out j q W').2 ⟨h1.call hb,(hb.block _ (zAG h2)).trans h2,(hb.block _ (zAG h3)).trans h3⟩)
  (fun j q q2 W W' _ h hg hrow=>by
   obtain⟨h1,h2,h3⟩:=(HD.out j q W).1 h;exact(HA.out (j+1) q2 W').2 ⟨q,(j:Nat),h1.turn (i:=1) rfl hg hrow rfl,(hg.block _ (zAG h2) (fun e=>by have:=Option.some.inj e;omega)).trans h2,(hg.block _ (zAG h3) (fun e=>by have:=Option.some.inj e;omega)).trans h3⟩)
  hYi W1 p hA0 HT.out).mono ?_
 rintro e W' ⟨⟨ve,rfl⟩,q,hrq,hDd⟩;obtain⟨stW,hrec,hdef⟩:=(HD.out m q W').1 hDd;have HRq:=Lib.hid hrq;clear hYi hA0 hY1 hDd hrq;refine⟨⟨_,rfl⟩,hrec,fun o=>?_⟩;have st:=stW.putNC (o':=.loop o) (by omega) hrec rfl;have hKd:=(World.putObj_heap_other (w:=W') (o:=.loop o) (by omega:w4.heap.size≠w4.heap.size+1)).trans hdef;generalize W'.putObj (w4.heap.size+1) (.loop o)=W at *;clear hrec hdef stW;go_wp2;refine Inv.wp_region_inv 4 (fun wx=>St w.heap.size w ((Bk,kv k,37)::(Bn,#[.pointer q],59)::(b5,#[.int .i64 (m:Nat)],3)::(b4,#[.pointer q],59)::(b3,kv k,37)::[]) wx∧wx.heap[w4.heap.size]?=some (.deferred (some []))) zBL (by kernel_rfl) ⟨st.drew,hKd⟩ ?_;have qq:∀wx,(St w.heap.size w ((Bk,kv k,37)::(Bn,#[.pointer q],59)::(b5,#[.int .i64 (m:Nat)],3)::(b4,#[.pointer q],59)::(b3,kv k,37)::[]) wx∧wx.heap[w4.heap.size]?=some (.deferred (some [])))→wx.cell? ⟨b4,0,none⟩=some (.pointer q)∧wx.cell? ⟨b5,0,none⟩=some (.int .i64 (m:Nat)):=fun wx h=>⟨h.1.cell (i:=3) rfl 0,h.1.cell (i:=2) rfl 0⟩
 simp only[List.take_succ_cons,List.take_zero,List.drop_succ_cons,List.drop_zero]
 iterate 2
  (refine Inv.wpInv_step (fun K hK=>?_);go_simp;apply zAL;· (intro wx hw;have q1:=qq wx hw;go_simp;(try go_ints);(try go_simp);(try (rw[if_pos (by omega)]));(try go_simp);(first | done | rfl))
   refine hK _ ?_;clear hK K)
 (refine Inv.wpInv_step (fun K hK=>?_);go_simp;refine And.intro (zDC 59 (.tmp 4) (.tmp 15) rfl b4 0 (by rfl) (.pointer q) (by rfl) zFU rfl rfl (fun wx h=>⟨⟨_,(qq wx h).1⟩,h.1.free (i:=3) rfl 0,h.1.set (i:=3) rfl 0 (.pointer q) rfl,?h1⟩)) ?_
  case h1=>rw[Below.heap_setCell _ _ _ _ (by show w4.heap.size≠b4;omega)];exact h.2
  refine hK _ ?_;clear hK K)
 (refine Inv.wpInv_step (fun K hK=>?_);go_simp;refine And.intro (zDC 3 (.tmp 5) (.tmp 16) rfl b5 0 (by rfl) (.int .i64 (m:Nat)) (by rfl) sizeI64 rfl rfl (fun wx h=>⟨⟨_,(qq wx h).2⟩,h.1.free (i:=2) rfl 0,h.1.set (i:=2) rfl 0 (.int .i64 (m:Nat)) rfl,?h1⟩)) ?_
  case h1=>rw[Below.heap_setCell _ _ _ _ (by show w4.heap.size≠b5;omega)];exact h.2
  refine hK _ ?_;clear hK K)
 refine Inv.wpInv_nil ?_;rintro w6 ⟨st6,hK6⟩;go_wp2;have st7:=st6.putDef (by omega) hK6;have hc4:=st7.cell (i:=3) rfl 0;have hc5:=st7.cell (i:=2) rfl 0;refine retM w4.heap.size rfl hK6 ⟨rfl,.tuple #[.pointer q,.int .i64 (m:Nat)],?_,q,rfl,HRq.out,st7.below⟩;exact results_cells2 rfl _ _ rfl rfl (zES aggPN hc4) (zES aggI64 hc5)
end
section
set_option maxHeartbeats 4000000
open Go Go.RowKit
attribute [local irreducible] Inv.wpInv Mix.wpUp
attribute [local go_sem] Oper.semAt_some
def SibPost(KK:List Int)(bits:Int)(m:Nat)(nd:Nat→Tr)(k:List Nat)(w0 w:World)(e:Ending)(w':World):Prop :=
 ∃a c ps,e=.returned (.slice a m c)∧w'.ownsRow w.heap.size 59 1 (.slice a m c) m (pcells ps m)∧(∀i<m,RepT KK bits w0 (ps i) (zCH (nd i) (1 - zDQ k (i:Nat))))∧Below w.heap.size w w'
set_option maxRecDepth 100000 in
theorem SiblingsT_calls(KK:List Int)(bits:Int)(k:List Nat)(hk:Key k)(t:Tr)(p:Option Addr)(w0 w:World)(ht:RepT KK bits w0 p t)(hw0:Below w0.heap.size w0 w)(m:Nat)(nd:Nat→Tr)(hW:WayN k t 0 m nd) :
  Calls Tryz.prog 41 #[.pointer p,.agg (kv k)] w (SibPost KK bits m nd k w0 w):=by
 have Hk:=Lib.hid hk.len;have Hkl:=Lib.hid hk.lt;have HT:=Lib.hid ht;have hm:=hW.le;have HW:=Lib.hid hW;have HBit:=Lib.hid (fun (j:Nat) wx=>zIC k hk (j:Nat) wx);clear ht hW hk;have st:=St.init w;refine(callsIn_wide (n:=3)).1 ?_;refine callsIn_of_wp_marks Tryz.func41 rfl trivial ?_ rfl;simp only[Tryz.ntmps41,List.size_toArray,List.length_cons,List.length_nil,Nat.reduceAdd,Nat.reduceSub,Array.replicate_succ,Array.replicate_zero,List.push_toArray,List.append_toArray,List.nil_append,List.cons_append];refine wpIn_wide.2 ?_
 go_wp2_with (first
  |(refine zAD st rfl 37 _ rfl _ rfl ?_;intro b3 w1 st1;clear st)
  |(refine zCS st1 rfl 106 rfl _ zeroSN ?_;intro b5 w3 st3;clear st1)
  |(refine zAC rfl 37 _ rfl b3 rfl _ zBF rfl _ _ (st3.at (i:=1) rfl) (zAX Hk.out) ?_)
  |(go_at_call 76;refine(way_calls p k _).mono ?_;rintro e w4 ⟨Bn,Bk,rfl,stw⟩))
 have st5:St w.heap.size w ((Bk,kv k,37)::(Bn,#[.pointer p],59)::(b5,#[.slice none 0 0],106)::(b3,kv k,37)::[]) w4:=st3.join stw;clear st3 stw;have hBn:Bn<w4.heap.size:=zAG (st5.at (i:=1) rfl);have hb5:b5<w4.heap.size:=zAG (st5.at (i:=2) rfl);have hb3:b3<w4.heap.size:=zAG (st5.at (i:=3) rfl);have hBk:Bk<w4.heap.size:=zAG (st5.at (i:=0) rfl);have hwS:=st5.size;refine wpIn_wide.1 (zFV (F:=Fence.wide) (n:=3) rfl (by omega) (gf:=122) (lb:=#[.pointer (some ⟨Bn,0,none⟩),.pointer (some ⟨Bk,0,none⟩)]) rfl trivial (enters_of Tryz.func122 (by kernel_rfl) rfl) ?_);intro rd1 bs1 W1 hW1 hY1;have hbelW1:Below w4.heap.size w4 W1:=by rw[hW1];exact((Below.refl _ w4).alloc (Nat.le_refl _) _).alloc (by simp) _
 have hrec1:W1.heap[w4.heap.size+1]?=some (.loop rd1):=by
  rw[hW1];have:=World.alloc_heap_new (w4.alloc (.deferred (some []))) (.loop rd1);rwa [World.size_alloc] at this
 have hdef1:W1.heap[w4.heap.size]?=some (.deferred (some [])):=by
  rw[hW1];exact(Below.heap_alloc _ _ _ (by simp)).trans (World.alloc_heap_new w4 _)
 have st6:=St.call st5 hbelW1;clear st5 hbelW1 hW1;obtain⟨M,hM⟩:∃M,M=W1.heap.size:=⟨_,rfl⟩
 have hM2:w4.heap.size+2≤M:=by rw[hM];have:=zAG hrec1;omega
 have hM1:M≤W1.heap.size:=Nat.le_of_eq hM;clear hM;obtain⟨E,hE⟩:∃E:Nat→Option Addr→World→Prop,∀c p W,E c p W↔∃(v:Value) (ps:Nat→Option Addr),St w.heap.size w [(Bk,kv k,37),(Bn,#[.pointer p],59),(b5,#[v],106),(b3,kv k,37)] W∧W.ownsRow M 59 1 v c (pcells ps c)∧M≤W.heap.size∧(∀i<c,RepT KK bits w0 (ps i) (zCH (nd i) (1 - zDQ k (i:Nat))))∧W.heap[w4.heap.size+1]?=some (.loop rd1)∧W.heap[w4.heap.size]?=some (.deferred (some [])):=⟨_,fun _ _ _=>Iff.rfl⟩
 have HE:=Lib.hid hE;clear hE;have hA0:E 0 p W1:=(HE.out 0 p W1).2 ⟨.slice none 0 0,fun _=>none,st6,World.ownsRow_nil _ _ _ _,hM1,fun i hi=>absurd hi (Nat.not_lt_zero _),hrec1,hdef1⟩;clear st6 hrec1 hdef1;have hYi:∀j q W,j≤m→RepT KK bits w0 q (nd j)→E j q W→YieldAt Fence.wide (2 - 1) Tryz.prog (w4.heap.size+1) #[.int .i64 (j:Nat),.pointer q] W (fun e W'=>e=.returned (.bool true)∧E (min (j+1) m) q W'):=by
  intro j q W hj hr hAW;obtain⟨v,ps,stW,hown,hMW,hps,hrec,hdef⟩:=(HE.out j q W).1 hAW;obtain⟨a',c',rfl⟩:=zDN hown;have HR:=Lib.hid hr;have HPs:=Lib.hid hps;clear hAW hA0 hr hps;refine hY1 #[.int .i64 (j:Nat),.pointer q] W _ rfl hrec ?_;refine wpIn_seq ?_;refine zEJ (fun h=>by obtain⟨_,_,h⟩:=h;exact h.elim) (by decide) ?_;go_simp;go_wp2;refine zEJ (fun h=>by obtain⟨_,_,h⟩:=h;exact h.elim) (by decide) ?_;go_simp;go_wp2;refine⟨hrec,?_⟩;have stc:=stW.putNC (o':=.loop bs1) (by omega) hrec rfl;have hownc:=zEV (o':=.loop bs1) hown hrec rfl;have hrecc:(W.putObj (w4.heap.size+1) (.loop bs1)).heap[w4.heap.size+1]?=some (.loop bs1):=World.putObj_heap_same (zAG hrec);have hdefc:=(World.putObj_heap_other (w:=W) (o:=.loop bs1) (by omega:w4.heap.size≠w4.heap.size+1)).trans hdef;have hMc:M≤(W.putObj (w4.heap.size+1) (.loop bs1)).heap.size:=Nat.le_trans hMW (grownBy_putObj' W (w4.heap.size+1) (.loop bs1)).size;generalize W.putObj (w4.heap.size+1) (.loop bs1)=wc at *;clear hrec hdef stW hown hMW;have HKd:=Lib.hid (zBW KK bits (nd j) q wc (HR.out.call (hw0.trans (stc.below.mono hw0.size))))
  by_cases hlt:j<m
  ·have h256:j<256:=by omega
   have hk2:=(HW.out.step j hlt).1;rw[hk2] at HKd;refine wpIn_block ?_;refine wpIn_seq ?_;refine zEJ (fun h=>by obtain⟨_,_,h⟩:=h;exact absurd h.1 (by simp)) (by decide) ?_
   go_wp2_with (first
    |(go_at_call 39;refine HKd.out.mono ?_;rintro e w6 ⟨rfl,hw6⟩;obtain rfl:=hw6.symm))
   refine wpIn_cond_true rfl ?_;obtain⟨b,hbb⟩:∃b:Int,zDQ k (j:Nat)=b:=⟨_,rfl⟩
   have hb01:b=0∨b=1:=by
    rw[←hbb,zJH h256]
    have:=zCQ k j;omega
   have HBj:=Lib.hid (HBit.out j);rw[hbb] at HBj;have hb0:0≤b:=by omega
   have hb1:b≤1:=by omega
   clear hb01 hk2;have hc5:=stc.cell (i:=2) rfl 0;have hr3:=stc.at (i:=3) rfl;have q':∀wx,Below wc.heap.size wc wx→wx.cell? ⟨b5,0,none⟩=some (.slice a' j c'):=fun wx h=>(h.cell (zAS hc5)).trans hc5
   refine regionIn_mix2 (J:=fun wx=>Below wc.heap.size wc wx) 8 (fun wx=>Below wc.heap.size wc wx) (fun h=>by obtain⟨_,_,h⟩:=h;exact absurd h.1 (by simp)) (by decide) zBL (by kernel_rfl) (Below.refl _ _).drew ?_;intro F inv;have hup:Mix.Up (fun wx=>Below wc.heap.size wc wx):=fun _ _ h hb=>h.trans (hb.mono h.size)
   refine Mix2.good_batch (f:=2) F hup (fun _ h=>h) [0,1,2,3,4,5] _ _ inv (by kernel_rfl) ?_;clear inv
   iterate 1
    (refine Mix.wpUp_cons rfl (fun K hK=>?_);go_simp;apply zAU;· (intro wx hw;have q1:=q' wx hw;go_simp;(try go_ints);(try go_simp);(try (rw[if_pos (by omega)]));(try go_simp);(first | done | rfl))
     refine hK _ ?_;clear hK K)
   iterate 1
    (refine Mix.wpUp_cons rfl (fun K hK=>?_);go_simp;apply zAU;· (intro wx hw;go_simp;(try go_ints);(try go_simp);(try (rw[if_pos (by omega)]));(try go_simp);(first | done | rfl))
     refine hK _ ?_;clear hK K)
   (refine Mix.wpUp_cons rfl (fun K hK=>?_);go_simp;refine zFB 37 _ rfl b3 rfl _ zBF rfl _ _ (fun wx hw=>(hw.block b3 (zAG hr3)).trans hr3) (zAX Hk.out) ?_
    refine hK _ ?_;clear hK K)
   iterate 1
    (refine Mix.wpUp_cons rfl (fun K hK=>?_);go_simp;apply zAU;· (intro wx hw;go_simp;(try go_ints);(try go_simp);(try (rw[if_pos (by omega)]));(try go_simp);(first | done | rfl))
     refine hK _ ?_;clear hK K)
   (refine Mix.wpUp_cons rfl (fun K hK=>?_);go_simp;refine zER 79 #[.agg (kv k),.int .i64 (j:Nat)] ?_ (fun wx stx=>HBj.out wx) ?_;· (intro wx hw;go_simp)
    refine hK _ ?_;clear hK K)
   iterate 1
    (refine Mix.wpUp_cons rfl (fun K hK=>?_);go_simp;apply zAU;· (intro wx hw;go_simp;(try go_ints);(try go_simp);(try (rw[if_pos (by omega)]));(try go_simp);(first | done | rfl))
     refine hK _ ?_;clear hK K)
   refine Mix.wpUp_nil ?_;intro inv;refine Mix2.good_one (i:=6) (f:=1) (by kernel_rfl) inv (fun w8 hb8=>?_);clear inv;refine zAT rfl rfl 78 #[.pointer q,.int .i64 (1 - b)] (by go_simp) ?_;refine(zDW KK bits (nd j) q (1 - b) w0 w8 HR.out (hw0.trans ((stc.below.trans (hb8.mono stc.size)).mono hw0.size))).mono ?_;rintro e w9 ⟨q2,rfl,hrq,hb9⟩;refine⟨_,rfl,fun wx=>Below wc.heap.size wc wx,hup,hb8.trans (hb9.mono hb8.size),fun _ h=>h,fun inv=>?_⟩;have HRq:=Lib.hid hrq;clear hb8 hb9 hrq;refine Mix2.good_one (i:=7) (f:=0) (by kernel_rfl) inv (fun w10 hb10=>?_);clear inv;refine zBQ (stc.call hb10) rfl rfl 106 1 _ rfl 59 sliceN _ 1 zeroPN zFU (by decide) (by decide) [(0,.pointer q2)] (by first | (simp[Act.eval];done) | (simp[Act.eval,Act.put];done) | rfl) _ (fillPN q2) ?_;intro b11 w11 st11 hb11;refine⟨fun wx=>St w.heap.size w ((b11,#[.pointer q2],59)::[(Bk,kv k,37),(Bn,#[.pointer q],59),(b5,#[.slice a' j c'],106),(b3,kv k,37)]) wx∧Below wc.heap.size wc wx,fun _ _ h hb=>⟨h.1.call hb,h.2.trans (hb.mono h.2.size)⟩,⟨st11,hb10.trans (hb11.mono hb10.size)⟩,fun _ h=>h.2,fun inv=>?_⟩;clear st11 hb11 hb10 inv F;refine⟨by kernel_rfl,fun w11 ⟨st11,hb11⟩=>?_⟩
   have hown11:=zAY hownc hb11;have hM11:=Nat.le_trans hMc hb11.size;have hrec11:=(hb11.block _ (zAG hrecc)).trans hrecc;have hdef11:=(hb11.block _ (zAG hdefc)).trans hdefc;clear stc hownc hMc hb11 hc5 hrecc hdefc q' hr3;simp only[List.drop_succ_cons,List.drop_zero,Act.put,List.getElem_toArray,List.getElem_cons_succ,List.getElem_cons_zero,List.setIfInBounds_toArray,List.set_cons_succ,List.set_cons_zero];have hjm:min (j+1) m=j+1:=Nat.min_eq_left hlt;rw[hjm]
   go_wp2_with (first
    |(at_builtin;(refine zDX (base:=M) st11.drop (.slice a' j c') (fun p hp e=>by have h1:=(hown11.lt p.1 e).1;have h2:p.1<w4.heap.size:=four_lt ⟨hBk,hBn,hb5,hb3⟩ p hp;omega) (by omega) rfl _ _ 106 rfl 59 _ 1 8 sliceN zeroPN zFU bytesPN rfl (by decide) j (pcells ps j) rfl hown11 b11 1 1 #[.pointer q2] 59 rfl rfl (st11.at (i:=0) rfl) (fun u hu=>by obtain rfl:u=.pointer q2:=(by simpa using hu);rfl) (by unfold maxLen;omega) (by omega) hM11 ?_);intro v12 w12 st12 hown12 hg12;have hM12:=Nat.le_trans hM11 hg12.size;have hrec12:=(hg12.block _ (zAG hrec11) (fun e=>by have h1:=(hown11.lt _ e.symm).1;omega)).trans hrec11;have hdef12:=(hg12.block _ (zAG hdef11) (fun e=>by have h1:=(hown11.lt _ e.symm).1;omega)).trans hdef11;clear st11 hown11 hM11 hg12 hrec11 hdef11)
    |((with_reducible refine zAN 106 ?_);(refine zBD st12 rfl 106 _ _ rfl 2 b5 0 rfl v12 rfl _ _ rfl sizeSlN (zDO hown12) Nat.one_pos (own_one hown12) _ rfl _ rfl ?_);intro w13 st13 hg13;have hown13:=zEQ hown12 hg13 (by omega);have hM13:=Nat.le_trans hM12 hg13.size;have hrec13:=(hg13.block _ (zAG hrec12) (fun e=>by have:=Option.some.inj e;omega)).trans hrec12;have hdef13:=(hg13.block _ (zAG hdef12) (fun e=>by have:=Option.some.inj e;omega)).trans hdef12;clear st12 hown12 hM12 hg13 hrec12 hdef12))
   refine(HE.out (j+1) q _).2 ⟨v12,fun i=>if i=j then q2 else ps i,st13.putNC (by omega) hrec13 rfl,zEV ?_ hrec13 rfl,Nat.le_trans hM13 (grownBy_putObj' w13 (w4.heap.size+1) (.loop rd1)).size,?_,World.putObj_heap_same (zAG hrec13),(World.putObj_heap_other (by omega)).trans hdef13⟩
   ·rw[pcells_succ,if_pos rfl,pcells_congr (ps':=ps) (fun i hi=>if_neg (by omega))]
    exact hown13
   ·intro i hi
    show RepT KK bits w0 (if i=j then q2 else ps i) (zCH (nd i) (1 - zDQ k (i:Nat)))
    by_cases h:i=j
    ·rw[if_pos h,h,hbb]
     exact HRq.out
    ·rw[if_neg h]
     exact HPs.out i (by omega)
  ·obtain rfl:j=m:=by omega
   have hkn:=HW.out.last;have hkb:(zBZ (nd j)==2)=false:=by simp[hkn]
   refine wpIn_block ?_;refine wpIn_seq ?_;refine zEJ (fun h=>by obtain⟨_,_,h⟩:=h;exact absurd h.1 (by simp)) (by decide) ?_
   go_wp2_with (first
    |(go_at_call 39;refine HKd.out.mono ?_;rintro e w6 ⟨rfl,hw6⟩;obtain rfl:=hw6.symm))
   refine wpIn_cond_false rfl ?_;have hjm:min (j+1) j=j:=Nat.min_eq_right (by omega);rw[hjm];refine wpIn_skip ?_;refine⟨rfl,hrecc,(HE.out j q _).2 ⟨_,ps,stc.putNC (by omega) hrecc rfl,zEV hownc hrecc rfl,Nat.le_trans hMc (grownBy_putObj' wc (w4.heap.size+1) (.loop rd1)).size,HPs.out,World.putObj_heap_same (zAG hrecc),(World.putObj_heap_other (by omega)).trans hdefc⟩⟩
 refine(wayT_in KK bits k ⟨Hk.out,Hkl.out⟩ t w0 2 (w4.heap.size+1) Bn Bk m nd HW.out (by omega) E (fun j q W=>E (min (j+1) m) q W) (fun j q W h=>by
   obtain⟨v,ps,h1,_⟩:=(HE.out _ q W).1 h;exact hw0.trans (h1.below.mono hw0.size)) (fun j q W h=>by
   obtain⟨v,ps,h1,_⟩:=(HE.out _ q W).1 h;exact h1.cell (i:=1) rfl 0) (fun j q W h=>by
   obtain⟨v,ps,h1,_⟩:=(HE.out _ q W).1 h;exact h1.at (i:=1) rfl) (fun j q W h=>by
   obtain⟨v,ps,h1,_⟩:=(HE.out _ q W).1 h;exact h1.at (i:=0) rfl)
  (fun j q W W' h hb=>by
   obtain⟨v,ps,h1,h2,h3,h4,h5,h6⟩:=(HE.out _ q W).1 h;exact(HE.out _ q W').2 ⟨v,ps,h1.call hb,zAY h2 hb,Nat.le_trans h3 hb.size,h4,(hb.block _ (zAG h5)).trans h5,(hb.block _ (zAG h6)).trans h6⟩)
  (fun j q q2 W W' hlt h hg hrow=>by
   obtain⟨v,ps,h1,h2,h3,h4,h5,h6⟩:=(HE.out _ q W).1 h;rw[Nat.min_eq_left (by omega:j+1≤m)] at h2 h4;exact(HE.out (j+1) q2 W').2 ⟨v,ps,h1.turn (i:=1) rfl hg hrow rfl,zEQ h2 hg (by omega),Nat.le_trans h3 hg.size,h4,(hg.block _ (zAG h5) (fun e=>by have:=Option.some.inj e;omega)).trans h5,(hg.block _ (zAG h6) (fun e=>by have:=Option.some.inj e;omega)).trans h6⟩)
  hYi W1 p hA0 HT.out).mono ?_
 rintro e W' ⟨⟨ve,rfl⟩,q,hrq,hDd⟩;rw[Nat.min_eq_right (by omega:m≤m+1)] at hDd;obtain⟨v,ps,stW,hown,hMW,hps,hrec,hdef⟩:=(HE.out m q W').1 hDd;obtain⟨a',c',rfl⟩:=zDN hown;have HPs:=Lib.hid hps;clear hYi hA0 hY1 hDd hrq hps;refine⟨⟨_,rfl⟩,hrec,fun o=>?_⟩;have st:=stW.putNC (o':=.loop o) (by omega) hrec rfl;have hown2:=zEV (o':=.loop o) hown hrec rfl;have hKd:=(World.putObj_heap_other (w:=W') (o:=.loop o) (by omega:w4.heap.size≠w4.heap.size+1)).trans hdef;generalize W'.putObj (w4.heap.size+1) (.loop o)=W at *;clear hrec hdef stW hown;have hc5:=st.cell (i:=2) rfl 0;go_wp2;have st7:=st.putDef (by omega) hKd;have hown7:=zEV (o':=.deferred none) hown2 hKd rfl;refine retM w4.heap.size rfl hKd ⟨rfl,.slice a' m c',?_,a',c',ps,rfl,own_mono hown7 (by omega),HPs.out,st7.below⟩;exact results_tmp (fn:=Tryz.f41) rfl _ _ _
end
end Go.Proofs.YtlcngapphloafaaGreatDoor
