/- Parts of the proof that are used by the claim: TOpen. No condition is added here. -/
import Derived.Test.YtlcngapphloafaaGreatDoorRows
import Derived.Test.YtlcngapphloafaaGreatDoorPk29
import Derived.ProofKit
import Derived.OpenShut
import Derived.ShutString
import Derived.ChangeOld
import Derived.ChangeSlices
import Derived.Below
import Derived.ChangeSame
import Derived.ChangeVars
import Derived.JoinedOf
import Derived.LaidLaws
import Derived.LaidHandle
import Derived.Stop.Joined
import Derived.Lay
import Derived.Lib.SmallJoins
import Derived.Lib.LaidTab
namespace Go.Proofs.YtlcngapphloafaaGreatDoor
section
open Go Go.ChangeShapes Go.WideShapes Go.ChangeAt Go.RowKit
theorem own:ownKnob Tryz.prog.godebug=none:=by kernel_rfl
theorem laidOut:laidOutB Tryz.prog=true:=by kernel_rfl
theorem etNamed:Tryz.prog.globalNamed "errors.errorType" = some 0:=by kernel_rfl
theorem rdNamed:Tryz.prog.globalNamed "sparsetree/sha.rounds" = some 1:=by kernel_rfl
theorem rtNamed:(Tryz.prog.cutTypes.find? (·.1 == "internal/reflectlite.rtype")).map (·.2)=some 212:=by kernel_rfl
theorem oneRow:((List.range 374).filter fun t=>Tryz.prog.rowNamed t [101,114,114,111,114])=[65]:=by kernel_rfl
theorem typesSize:Tryz.prog.types.size=374:=by kernel_rfl
theorem handle_of{W:World}(h:handlesMet Tryz.prog [("errors.errorType",Rows.laid_errors_errorType)] W):GotET W:=by
 obtain⟨name,u,ty,e1,e2,e3,e4,e5⟩:=h _ (List.mem_singleton.2 rfl);have en:name=[101,114,114,111,114]:=(Option.some.inj e1).symm;subst en;obtain rfl:=Option.some.inj (rtNamed.symm.trans e2);have hm:ty∈(List.range 374).filter fun t=>Tryz.prog.rowNamed t [101,114,114,111,114]:=List.mem_filter.2 ⟨List.mem_range.2 (by rw[←typesSize];exact e3),e4⟩
 rw[oneRow] at hm;obtain rfl:=List.mem_singleton.1 hm;have hh:typeHandle Tryz.prog 65=hnd 65:=by kernel_rfl
 rw[hh] at e5;have h9:=World.var?_cell etNamed e5 0;unfold GotET
 simpa using h9
def roundsK:List Int:=[1116352408,1899447441,3049323471,3921009573,961987163,1508970993,2453635748,2870763221,3624381080,310598401,607225278,1426881987,1925078388,2162078206,2614888103,3248222580,3835390401,4022224774,264347078,604807628,770255983,1249150122,1555081692,1996064986,2554220882,2821834349,2952996808,3210313671,3336571891,3584528711,113926993,338241895,666307205,773529912,1294757372,1396182291,1695183700,1986661051,2177026350,2456956037,2730485921,2820302411,3259730800,3345764771,3516065817,3600352804,4094571909,275423344,430227734,506948616,659060556,883997877,958139571,1322822218,1537002063,1747873779,1955562222,2024104815,2227730452,2361852424,2428436474,2756734187,3204031479,3329325298]
def laidD:List (String×DataW Unit):=[("sparsetree/sha.rounds",Rows.laid_sparsetree_sha_rounds)]
def laidH:List (String×DataW Unit):=[("errors.errorType",Rows.laid_errors_errorType)]
def laid2:List (String×DataW Unit):=[("errors.errorType",Rows.laid_errors_errorType),("sparsetree/sha.rounds",Rows.laid_sparsetree_sha_rounds)]
theorem laid2_data:(laid2.filter fun x=>x.2.handleName?.isNone)=laidD:=rfl
theorem laid2_handles:(laid2.filter fun x=>x.2.handleName?.isSome)=laidH:=rfl
theorem roundsData:(Rows.laid_sparsetree_sha_rounds:DataW Unit)=Lib.tabData .u32 roundsK:=rfl
theorem of_laid2{W:World}(h:laidMetH Tryz.prog laid2 W):GotET W∧HasK roundsK W:=by
 unfold laidMetH at h;rw[laid2_handles,laid2_data] at h;obtain⟨h1,h2⟩:laidMet Tryz.prog laidD W∧handlesMet Tryz.prog laidH W:=h;refine⟨handle_of h2,rfl,?_⟩;have ht:Lib.TabIs Tryz.prog W "sparsetree/sha.rounds" .u32 roundsK:=by
  obtain⟨ps,hv,_⟩:=h1;unfold laidD at hv;obtain⟨g',t',cs,fuel,p,q,hg',ht',hvar,hd,_,_⟩:=hv;obtain rfl:=Option.some.inj (rdNamed.symm.trans hg');obtain rfl:=Option.some.inj ((show (Tryz.prog.globals[1]?).map (·.type)=some 312 by kernel_rfl).symm.trans ht');unfold Lib.TabIs;rw[roundsData] at hd;rw[hvar,←Lib.cells_of_tab Tryz.underlying312 Tryz.underlying243 (by kernel_rfl) (by kernel_rfl) hd]
 unfold Lib.TabIs World.var? at ht;rw[rdNamed,Option.bind_some] at ht
 split at ht
 ·rename_i cs t fz hc
  obtain rfl:=Option.some.inj ht;exact⟨t,fz,hc⟩
 ·cases ht
noncomputable def laidWorld(os:Os):World :=
 let w0:=World.holding Tryz.prog os ⟨#[],#[],[]⟩
 {w0 with heap:=w0.heap.modify 0 fun
   |.cells _ t frozen=>.cells #[.iface 212 (.agg #[hnd 65])] t frozen
   |o=>o}
noncomputable def laidWorld2(os:Os):World:=(laidWorld os).layVars Tryz.prog laidD
theorem laidWorld2_met(os:Os)(args:Array Value):laidMetH Tryz.prog laid2 ((laidWorld2 os).forCall (fun _ _=>0) ⟨#[],args,[]⟩).memory:=by
 refine laidMetH_of_parts ?_ (by kernel_rfl);rw[laid2_data];have e1:(laidD.filter fun x=>(laidD.map (·.1)).contains x.1)=laidD:=List.filter_eq_self.2 fun x hx=>List.contains_iff_mem.2 (List.mem_map.2 ⟨x,hx,rfl⟩)
 have e2:(laidD.filter fun x=>!(laidD.map (·.1)).contains x.1)=[]:=List.filter_eq_nil_iff.2 fun x hx=>by rw[List.contains_iff_mem.2 (List.mem_map.2 ⟨x,hx,rfl⟩)];simp
 have h:laidMet Tryz.prog laidD (laidWorld2 os):=laidMet_layVars (w0:=laidWorld os) (laidD.map (·.1)) [] (by rw[e1];rfl) (by rw[e1];kernel_rfl) (by rw[e1];kernel_rfl) (by rw[e2];exact LaidIn.none);exact h.of_heap (by simp[World.memory,World.forCall,Input.heap])
theorem addPlain(b off n:Nat):(⟨b,off,none⟩:Addr).add n=⟨b,off+n,none⟩:=by unfold Addr.add;split<;>simp_all
set_option maxRecDepth 100000 in
theorem open_bytes{H:Type}{enc:TypeId×Value→H}{W:World}{n:Nat}{v:Value}{y:DataW H×List MemPlace}(hf:DataW.trod enc Tryz.prog W 0 (fun _=>true) true n 22 [v]=some y) :
  ∃a l c,v=.slice a l.length c∧RdS W v l∧∀x∈l,x<256:=by
 rcases open_ints Tryz.underlying22 Tryz.underlying5 (by kernel_rfl) hf with ⟨hcs,_⟩ | ⟨x,len,c,zs,hcs,_,hl,hm,hz,_,hcell,hwz⟩
 ·obtain rfl:v=.slice none 0 0:=by simpa using hcs
  exact⟨none,[],0,rfl,⟨RdB.nil W,none,0,rfl,Nat.le_refl _⟩,fun x hx=>by cases hx⟩
 ·obtain rfl:v=.slice (some x) len c:=by simpa using hcs
  have hz':zs.length=c:=by simpa using hz
  have hlen:((zs.take len).map Int.toNat).length=len:=by simp;omega
  have hb:∀y∈zs,0≤y∧y<256:=fun y hy=>wf_u8_lt (hwz y hy)
  refine⟨some x,(zs.take len).map Int.toNat,c,by rw[hlen],⟨⟨by omega,?_⟩,some x,c,by rw[hlen],by omega⟩,fun y hy=>?_⟩
  ·by_cases h0:len=0
   ·subst h0
    exact .inl ⟨by simp,_,_,rfl⟩
   ·obtain⟨b,off,spot⟩:=x
    have hspot:spot=none:=by
     have:=World.cell?_spot (hcell 0 (by omega))
     simpa[Addr.add] using this
    subst hspot;refine .inr ⟨b,off,c,by rw[hlen],fun i hi=>?_⟩;rw[hlen] at hi;have h1:=hcell i (by omega);rw[addPlain] at h1;rw[h1];have hzi:zs[i]?=some zs[i]:=List.getElem?_eq_getElem (by omega);have h2:=(hb zs[i] (List.getElem_mem _)).1;simp[List.getD_eq_getElem?_getD,hi,hzi];omega
  ·obtain⟨z,hz2,rfl⟩:=List.mem_map.1 hy
   have:=hb z (List.mem_of_mem_take hz2);omega
end
end Go.Proofs.YtlcngapphloafaaGreatDoor
