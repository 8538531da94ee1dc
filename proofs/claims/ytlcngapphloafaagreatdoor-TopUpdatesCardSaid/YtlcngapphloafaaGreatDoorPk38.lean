/- Parts of the proof that are used by the claim: Srt2. No condition is added here. -/
import Derived.Test.YtlcngapphloafaaGreatDoorPk36
import Derived.Test.YtlcngapphloafaaGreatDoorPk37
namespace Go.Proofs.YtlcngapphloafaaGreatDoor
section
open Go Go.RowKit
attribute [local irreducible] Inv.wpInv Mix.wpUp
abbrev KCh:={c:Chg // Key c.k}
theorem keyZero:Key zAH:=⟨by unfold zAH;simp,fun x hx=>by unfold zAH at hx;rw[List.eq_of_mem_replicate hx];decide⟩
instance:Inhabited KCh:=⟨⟨⟨zAH,none,0,0,false⟩,keyZero⟩⟩
def cmpK(x y:KCh):Int:=zDV x.1.k y.1.k
theorem swoK:Go.Sort.SWO (ltOf cmpK) where
 irrefl x:=by simp[ltOf,cmpK,cmpL_self]
 trans x y z h1 h2:=by
  exact decide_eq_true (cmpL_trans _ _ _ (x.2.len.trans y.2.len.symm) (y.2.len.trans z.2.len.symm) (of_decide_eq_true h1) (of_decide_eq_true h2))
 ntrans x y z h1 h2:=by
  have h1:¬zDV x.1.k y.1.k<0:=of_decide_eq_false h1;have h2:¬zDV y.1.k z.1.k<0:=of_decide_eq_false h2;refine decide_eq_false (fun h=>?_);have h:zDV x.1.k z.1.k<0:=h;have a1:=zJE x.1.k y.1.k;have a2:=zJE y.1.k z.1.k
  by_cases e1:zDV x.1.k y.1.k=0
  ·have:=cmpL_eq _ _ (x.2.len.trans y.2.len.symm) e1
   rw[this] at h;exact h2 h
  ·by_cases e2:zDV y.1.k z.1.k=0
   ·have:=cmpL_eq _ _ (y.2.len.trans z.2.len.symm) e2
    rw[←this] at h;exact h1 h
   ·have h3:=cmpL_trans _ _ _ (z.2.len.trans y.2.len.symm) (y.2.len.trans x.2.len.symm) (by omega) (by omega)
    have a3:=zJE x.1.k z.1.k;omega
theorem aggChW(w:World):(isAgg 276).run Tryz.prog w=.ok true w:=by kernel_rfl
theorem sizeChW(w:World):(sizeOf 276).run Tryz.prog w=.ok 34 w:=by kernel_rfl
theorem grownBy_sort{w:World}{b:Nat}{f:Array Value→Array Value}{n:Nat}{os:Array Obj}:w.grownBy (Go.Sort.grow (Go.Sort.mapBlock (Go.Sort.ahead w n) b f) os) (some b):=by
 have hs:(Go.Sort.mapBlock (Go.Sort.ahead w n) b f).heap.size=w.heap.size:=by simp[Go.Sort.mapBlock,Go.Sort.ahead]
 refine⟨rfl,rfl,rfl,?_,fun k hk hne=>?_⟩
 ·show w.heap.size≤((Go.Sort.mapBlock (Go.Sort.ahead w n) b f).heap++os).size
  rw[Array.size_append,hs];omega
 ·show ((Go.Sort.mapBlock (Go.Sort.ahead w n) b f).heap++os)[k]?=_
  rw[Array.getElem?_append_left (by omega)];have hkb:b≠k:=fun e=>hne (by rw[e])
  show (w.heap.modify b (Go.Sort.onCells f))[k]?=_
  rw[Array.getElem?_modify];simp[hkb]
theorem InsNil_calls(g:Value)(w:World) :
  Calls Tryz.prog 194 #[.slice none 0 0,.int .i64 0,.int .i64 0,g] w fun e w'=>e=.returned (.tuple #[])∧w'=w:=by
 go_enter Tryz.func194,Tryz.ntmps194;go_wp2
 go_loopw [8] (fun x wr=>x=.int .i64 1∧wr=w) (fun _ _=>0)
 case atStart=>exact⟨rfl,rfl⟩
 case round =>
  obtain⟨rfl,rfl⟩:=hrel;go_wp2
  go_end0
  exact⟨rfl,rfl⟩
theorem PdqNil_calls(l g:Value)(w:World) :
  Calls Tryz.prog 174 #[.slice none 0 0,.int .i64 0,.int .i64 0,l,g] w fun e w'=>e=.returned (.tuple #[])∧w'=w:=by
 go_enter Tryz.func174,Tryz.ntmps174;go_wp2
 go_loopw [1,2] (fun x y wr=>x=.int .i64 0∧y=.int .i64 0∧wr=w) (fun _ _ _=>0)
 case atStart=>exact⟨rfl,rfl,rfl⟩
 case round =>
  obtain⟨rfl,rfl,rfl⟩:=hrel
  go_wp2_with (first
   |(go_at_call 194;refine(InsNil_calls _ _).mono ?_;rintro e w2 ⟨rfl,rfl⟩))
  refine bodyPost_ret (results_none rfl _ _ _) rfl ?_;exact⟨rfl,rfl⟩
theorem SortNil_calls(g:Value)(w:World) :
  Calls Tryz.prog 152 #[.slice none 0 0,g] w fun e w'=>e=.returned (.tuple #[])∧w'=w:=by
 have hl:∀wx,Calls Tryz.prog 175 #[.int .u64 0] wx fun e w'=>e=.returned (.int .i64 (Lib.bitLen 0:Nat))∧w'=wx:=fun wx =>
  Any.bits_Len (SlLaysF0.n15.bits (P:=Tryz.prog) (ρ:=Tryz.sortCh_ren) {Tryz.sortCh with}) 0 wx (by omega) (by omega)
 go_enter Tryz.func152,Tryz.ntmps152
 go_wp2_with (first
  |(go_at_call 175;refine(hl _).mono ?_;rintro e w2 ⟨rfl,rfl⟩)
  |(go_at_call 174;refine(PdqNil_calls _ _ _).mono ?_;rintro e w2 ⟨rfl,rfl⟩))
 go_end0
 exact⟨rfl,rfl⟩
theorem SortCh_calls(cs:List Chg)(v:Value)(M:Nat)(w:World)(hk:KeysCh cs)(hn:cs.length≤1000)(hown:w.ownsRow M 276 34 v cs.length (cs.flatMap chc)) :
  Calls Tryz.prog 152 #[v,.func (.func 153) #[] #[]] w fun e w'=>e=.returned (.tuple #[])∧∃cs':List Chg,cs'.Perm cs∧(cs'.Pairwise fun a b=>zDV a.k b.k≤0)∧RdCh w' v cs'∧w.grownBy w' v.ownBlock:=by
 have hchl:∀c∈cs,(chc c).length=34:=fun c hc=>zFK c (hk c hc).len
 rcases hown.2 with ⟨rfl,h0⟩ | ⟨g,cap,cur,rfl,hMg,hrow,hcap,hcm,hsz,htk⟩
 ·have hnil:cs=[]:=List.length_eq_zero_iff.1 h0
  subst hnil;exact(SortNil_calls _ w).mono fun e w' ⟨h1,h2⟩=>⟨h1,[],.refl _,.nil,by rw[h2];exact RdG.nil w,by rw[h2];exact World.grownBy.refl _ _⟩
 ·obtain⟨d,hd⟩:∃d:Array KCh,d=(cs.attach.map fun c=>(⟨c.1,hk c.1 c.2⟩:KCh)).toArray:=⟨_,rfl⟩
  have hds:d.size=cs.length:=by rw[hd];simp
  have hdl:d.toList.map (·.1)=cs:=by rw[hd];simp
  have hdi:∀i (hi:i<cs.length),d[i]!.1=cs[i]:=fun i hi=>by
   rw[getElem!_pos d i (by omega)];have h:(d.toList.map (·.1))[i]?=cs[i]?:=by rw[hdl]
   rw[List.getElem?_map,Array.getElem?_toList,Array.getElem?_eq_getElem (by omega),List.getElem?_eq_getElem hi] at h;exact Option.some.inj h
  have hH:Go.Sort.HoldsK (fun x:KCh=>chc x.1) 34 w g 0 d:=by
   intro t ht;rw[Go.Sort.size_flatK,hds] at ht;have hi:t / 34<cs.length:=by omega
   have hc:=rowAt hchl hrow htk rfl (t / 34) hi (t%34) ((chc cs[t / 34])[t%34]!) (by
    have hl:=hchl cs[t / 34] (List.getElem_mem _);rw[getElem!_pos (chc cs[t / 34]) (t%34) (by omega)];exact List.getElem?_eq_getElem _)
   rw[Go.Sort.get_flatK _ _ _ _ (by rw[hds];exact ht),hdi _ hi,Nat.zero_add];have e:t / 34*34+t%34=t:=by omega
   rw[e] at hc;exact⟨hc,by simp[World.frozen?,hrow]⟩
  have eg:∀args w,(callFunc 153 args).run Tryz.prog w=.ok (.enter 153 args) w:=enters_of Tryz.func153 (by kernel_rfl) rfl;have hcl:CmpLays Tryz.prog 153 #[] (fun x:KCh=>chc x.1) 34 cmpK g 0 d.size w:=fun m os dk _ x y =>
   (sortFn_callsD x.1 y.1 x.2 y.2 _).mono fun e w' ⟨h1,h2,h3⟩=>⟨h1,grow_of h2 h3⟩
  have hcon:=AnyQ.slices_SortFunc Tryz.sortCh 34 aggChW sizeChW (fun x:KCh=>chc x.1) (fun x=>zFK x.1 x.2.len) (fun x u hu=>zJG x.1 u (by simpa using hu)) cmpK swoK 153 #[] g 0 cap d w eg hcl hH (zAG hrow) (by omega);rw[hds] at hcon;refine Calls.mono hcon ?_;rintro e w' ⟨rfl,d',n,os,hp,hs,rfl⟩;have hds':d'.size=cs.length:=by rw[hp.1,hds]
  have hH':Go.Sort.HoldsK (fun x:KCh=>chc x.1) 34 (sortWorldK (fun x:KCh=>chc x.1) 34 w g 0 n d' os) g 0 d':=by
   unfold sortWorldK;have h1:=Go.Sort.holdsK_putRowK (fun x:KCh=>chc x.1) 34 (Go.Sort.ahead w n) g 0 d d' hH (by rw[hds',hds]);refine Go.Sort.holdsK_grow (fun x:KCh=>chc x.1) 34 _ os g 0 d' ?_ h1
   have:=zAG hrow
   simpa[Go.Sort.putRowK,Go.Sort.putRow,Go.Sort.mapBlock,Go.Sort.ahead] using this
  have hl':(d'.toList.map (·.1)).length=cs.length:=by rw[List.length_map,Array.length_toList,hds']
  refine⟨rfl,d'.toList.map (·.1),?_,?_,⟨?_,by omega,some ⟨g,0,none⟩,cap,by rw[hl'],by omega,fun _=>⟨g,0,rfl,fun i hi j u hu=>?_⟩⟩,grownBy_sort⟩
  ·have h:=hp.2.2
   rw[←hds,Array.extract_size] at h;have e:d'.extract 0 d.size=d':=by rw[hds,←hds',Array.extract_size]
   rw[e] at h;have h2:=h.map (·.1)
   rwa [hdl] at h2
  ·rw[List.pairwise_map,List.pairwise_iff_getElem]
   intro i j hi hj hij;rw[Array.length_toList] at hi hj;have h:=hs i j (Nat.zero_le _) hij (by omega);rw[getElem!_pos d' i hi,getElem!_pos d' j hj] at h;have h2:¬zDV d'[j].1.k d'[i].1.k<0:=of_decide_eq_false h;have h3:=zJE d'[j].1.k d'[i].1.k;simp only[Array.getElem_toList];omega
  ·intro x hx
   obtain⟨y,_,rfl⟩:=List.mem_map.1 hx;exact zFK y.1 y.2.len
  ·rw[hl'] at hi
   rw[List.getElem_map,Array.getElem_toList] at hu;have hj:j<34:=by
    have:=(List.getElem?_eq_some_iff.1 hu).1
    rwa [zFK _ (d'[i]'(by omega)).2.len] at this
   have h:=(hH'.cell (i:=i) (c:=j) (by omega) hj).1;rw[h,getElem!_pos d' i (by omega)]
   congr 1
   rw[List.getElem!_eq_getElem?_getD,hu];rfl
end
end Go.Proofs.YtlcngapphloafaaGreatDoor
