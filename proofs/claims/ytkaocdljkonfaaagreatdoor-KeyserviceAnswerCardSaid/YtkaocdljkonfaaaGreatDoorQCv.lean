/-
  What the shelf knows of slices.SortFunc at this program's terms. The variables of a term, and what a key must be: the program's text. Credentials: nam
-/
import Derived.Test.YtkaocdljkonfaaaGreatDoorProg
import Derived.Test.YtkaocdljkonfaaaGreatDoorQVc
set_option maxHeartbeats 64000000
set_option maxRecDepth 100000
namespace Go.Proofs
open Go.Shelf
def Tryz.sortTm_ren:Go.Shelf.Ren:=⟨fun|6=>223|15=>251|14=>250|28=>276|29=>245|20=>268|21=>269|22=>270|23=>271|24=>272|25=>273|26=>274|27=>275|46=>286|47=>287|48=>288|49=>289|50=>290|57=>296|n=>n,fun|22=>22|24=>24|25=>97|3=>3|39=>172|0=>0|53=>212|55=>195|4=>4|46=>241|45=>240|50=>147|5=>5|9=>9|66=>257|70=>142|76=>263|77=>264|n=>n,fun|n=>n⟩
theorem Tryz.sortTm:Go.Proofs.SlLaysF0.n6 Tryz.prog Tryz.sortTm_ren:={
 mixed:=by kernel_rfl
 f6:=⟨Tryz.f223.name,by decide,Tryz.func223.trans (congrArg some (by kernel_rfl))⟩
 f14:=⟨Tryz.f250.name,by decide,Tryz.func250.trans (congrArg some (by kernel_rfl))⟩
 f15:=Tryz.func251.trans (congrArg some (by kernel_rfl))
 f20:=⟨Tryz.f268.name,by decide,Tryz.func268.trans (congrArg some (by kernel_rfl))⟩
 f21:=⟨Tryz.f269.name,by decide,Tryz.func269.trans (congrArg some (by kernel_rfl))⟩
 f22:=⟨Tryz.f270.name,by decide,Tryz.func270.trans (congrArg some (by kernel_rfl))⟩
 f23:=⟨Tryz.f271.name,by decide,Tryz.func271.trans (congrArg some (by kernel_rfl))⟩
 f24:=⟨Tryz.f272.name,by decide,Tryz.func272.trans (congrArg some (by kernel_rfl))⟩
 f25:=⟨Tryz.f273.name,by decide,Tryz.func273.trans (congrArg some (by kernel_rfl))⟩
 f26:=⟨Tryz.f274.name,by decide,Tryz.func274.trans (congrArg some (by kernel_rfl))⟩
 f27:=⟨Tryz.f275.name,by decide,Tryz.func275.trans (congrArg some (by kernel_rfl))⟩
 f28:=Tryz.func276.trans (congrArg some (by kernel_rfl))
 f29:=Tryz.func245.trans (congrArg some (by kernel_rfl))
 f46:=⟨Tryz.f286.name,by decide,Tryz.func286.trans (congrArg some (by kernel_rfl))⟩
 f47:=Tryz.func287.trans (congrArg some (by kernel_rfl))
 f48:=Tryz.func288.trans (congrArg some (by kernel_rfl))
 f49:=⟨Tryz.f289.name,by decide,Tryz.func289.trans (congrArg some (by kernel_rfl))⟩
 f50:=⟨Tryz.f290.name,by decide,Tryz.func290.trans (congrArg some (by kernel_rfl))⟩
 f57:=⟨Tryz.f296.name,by decide,Tryz.func296.trans (congrArg some (by kernel_rfl))⟩
 t0:=Tryz.underlying0
 a0:=Tryz.isAgg0
 z0:=Tryz.sizeOf0
 v0:=Tryz.zeroValue0
 t3:=Tryz.underlying3
 a3:=Tryz.isAgg3
 z3:=Tryz.sizeOf3
 v3:=Tryz.zeroValue3
 t4:=Tryz.underlying4
 a4:=Tryz.isAgg4
 z4:=Tryz.sizeOf4
 v4:=Tryz.zeroValue4
 t5:=Tryz.underlying5
 a5:=Tryz.isAgg5
 z5:=Tryz.sizeOf5
 v5:=Tryz.zeroValue5
 t9:=Tryz.underlying9
 a9:=Tryz.isAgg9
 z9:=Tryz.sizeOf9
 v9:=Tryz.zeroValue9
 t22:=Tryz.underlying22
 a22:=Tryz.isAgg22
 z22:=Tryz.sizeOf22
 v22:=Tryz.zeroValue22
 t25:=Tryz.underlying97
 a25:=Tryz.isAgg97
 z25:=Tryz.sizeOf97
 v25:=Tryz.zeroValue97
 t39:=Tryz.underlying172
 a39:=Tryz.isAgg172
 z39:=Tryz.sizeOf172
 v39:=Tryz.zeroValue172
 t45:=Tryz.underlying240
 a45:=Tryz.isAgg240
 z45:=Tryz.sizeOf240
 v45:=Tryz.zeroValue240
 t46:=Tryz.underlying241
 a46:=Tryz.isAgg241
 z46:=Tryz.sizeOf241
 v46:=Tryz.zeroValue241
 t50:=Tryz.underlying147
 a50:=Tryz.isAgg147
 z50:=Tryz.sizeOf147
 v50:=Tryz.zeroValue147
 t53:=Tryz.underlying212
 a53:=Tryz.isAgg212
 z53:=Tryz.sizeOf212
 v53:=Tryz.zeroValue212
 t55:=Tryz.underlying195
 a55:=Tryz.isAgg195
 z55:=Tryz.sizeOf195
 v55:=Tryz.zeroValue195
 t66:=Tryz.underlying257
 a66:=Tryz.isAgg257
 z66:=Tryz.sizeOf257
 v66:=Tryz.zeroValue257
 t70:=Tryz.underlying142
 a70:=Tryz.isAgg142
 z70:=Tryz.sizeOf142
 v70:=Tryz.zeroValue142
 t76:=Tryz.underlying263
 a76:=Tryz.isAgg263
 z76:=Tryz.sizeOf263
 v76:=Tryz.zeroValue263
 t77:=Tryz.underlying264
 a77:=Tryz.isAgg264
 z77:=Tryz.sizeOf264
 v77:=Tryz.zeroValue264}
end Go.Proofs
namespace Go.Vm.Seat
variable {bx:List Box} {L:List Tm} {t:Tm} {l:List Bs} {i:Nat}
open Go.Proofs
theorem Zll {id : Nat} (hid : bx[id]? = some (.cells 4 (Za L))) (hL : L ≠ []) (hok : ∀ x, x ∈ L → x.Ok ∧ x.size ≤ 100000) (hlen : L.length ≤ 100000) :
  CallOk E0 Tryz.prog 223 [.own id 4 0 L.length,.fn 77 []] ⟨bx,0,[],0⟩ (.tup []) ⟨bx.set id (.cells 4 (Za (Uf L))),0,[],0⟩:=
 Zlw (E:=E0) (E1:=E1) (H:=⟨bx,0,[],0⟩) fe223.ok fe77.ok ⟨rfl,rfl⟩ rfl
  (fun enc h4 h1 cf hO blk off cap d w eg hcmp hH hblk hsz=>AnyQ.slices_SortFunc_eq Tryz.sortTm 4 Tryz.isAgg24 Tryz.sizeOf24 enc h4 h1 cf hO 77 #[] blk off cap d w eg hcmp hH hblk hsz)
  hL (N:=100000) (fun t ht=>(hok t ht).2) (fun a b ha hb=>d77 (hok a ha).1 (hok b hb).1 (by have:=(hok a ha).2;omega) (by have:=(hok b hb).2;omega) _) (by omega) hid (Nat.zero_le _)
def Zps (id:Nat) (r:PV) (H:Heap):Prop:=∃ (M:List Tm) (D:List (List PV)),r= .own id 4 0 M.length∧M≠ []∧nth H.bx id=some (.cells 4 (Za M++D))
theorem Zm7 {id : Nat} (hid : bx[id]? = some (.cells 4 (Za L))) (hL : L ≠ []) (hok : ∀ x, x ∈ L → x.Ok ∧ x.size ≤ 100000) (hlen : L.length ≤ 100000) :
  ∃ r H',CallOk E0 Tryz.prog 187 [.own id 4 0 L.length] ⟨bx,0,[],0⟩ r H'∧Zps id r H':=by
 have hlt:=ZS hid
 have hs:=Zll hid hL hok hlen
 have hp:=Zf9 hL (N:=100000) fun t ht=>(hok t ht).2
 have hsl:(Uf L).length=L.length:=hp.length_eq
 have hsne:Uf L≠ []:=fun h=>by rw [h] at hsl;exact hL (List.length_eq_zero_iff.1 hsl.symm)
 have hsm:∀ x,x∈Uf L→x∈L:=fun x hx=>hp.mem_iff.1 hx
 obtain ⟨r1,H1,hc,M,D,rfl,rfl,hMl,hMne,hMm⟩:=Zgd (id:=id) (bx:=bx.set id (.cells 4 (Za (Uf L)))) (L:=Uf L) (by simp [hlt]) (fun x hx=>hok x (hsm x hx)) (by omega)
 rw [hsl] at hc
 rw [List.set_set] at hc
 have hMne:=hMne hsne
 refine Z9 (own:=fun _=>false) tOk fe187.ok ?_
 refine Wp.seq ?_
 repeat' first|refine Jc hs ?_|refine Jc hc ?_|refine Jo ?_|fail
 refine Wp.while (fun m tm H=>∃ (i:Nat) (base:TM),i+m=M.length∧tm=ovr base [(0,.own id 4 0 M.length),(9,.int .i64 (M.length:Int)),(10,.int .i64 (i:Int))]∧H=⟨bx.set id (.cells 4 (Za (clL (M.take i)++M.drop i)++D)),0,[],0⟩)
  (fun m tm H hI=>?_) M.length _ _ ⟨0,_,by omega,Zh ⟨rfl,rfl,rfl,trivial⟩,by simp [clL]⟩
 obtain ⟨i,base,hi,rfl,rfl⟩:=hI
 have hnb:nth (bx.set id (.cells 4 (Za (clL (M.take i)++M.drop i)++D))) id=some (.cells 4 (Za (clL (M.take i)++M.drop i)++D)):=by rw [Zy];simp [hlt]
 by_cases hilt:i<M.length
 · obtain ⟨x, hx⟩ : ∃ x, M[i]? = some x := ⟨M[i], by simp⟩
   have hxm:=hMm x (List.mem_of_getElem? hx)
   have hxo:=hok x (hsm x hxm)
   have hlen1:(clL (M.take i)).length=i:=by rw [W9,List.length_take];omega
   have hat:(clL (M.take i)++M.drop i)[i]? = some x:=by
    rw [List.getElem?_append_right (by omega),hlen1,Nat.sub_self,List.getElem?_drop];simpa using hx
   have hnext:(clL (M.take i)++M.drop i).set i x.cl=clL (M.take (i+1))++M.drop (i+1):=by
    rw [ZbQ hx,ZN hx,List.set_append_right _ _ (by omega),hlen1,Nat.sub_self]
    simp
   have hcell:nth (Za (clL (M.take i)++M.drop i)++D) i=some x.cells:=by
    obtain ⟨k,nm,s,b,kids⟩:=x
    rw [Zy,List.getElem?_append_left (by rw [Zb];exact ZS hat)]
    exact Zl hat
   have hi1:=ZdR (id:=id) (ix:=0) (len:=M.length) hilt
   have hl1:YH E0 24 (.ptr id 4 (0+i) 0) ⟨bx.set id (.cells 4 (Za (clL (M.take i)++M.drop i)++D)),0,[],0⟩=some (.agg x.cells):=by
    rw [Nat.zero_add]
    exact Zah rfl rfl hnb hcell (by obtain ⟨k,nm,s,b,kids⟩:=x;rfl)
   have hcl:=ZqQ hxo.1 hxo.2
   have hst:Heap.wr ⟨bx.set id (.cells 4 (Za (clL (M.take i)++M.drop i)++D)),0,[],0⟩ (.ptr id 4 (0+i) 0) x.cl.cells=some ⟨bx.set id (.cells 4 (Za (clL (M.take (i+1))++M.drop (i+1))++D)),0,[],0⟩:=by
    rw [Nat.zero_add,ZfN hnb hcell (by obtain ⟨k,nm,s,b,kids⟩:=x;simp [Tm.cells,Tm.cl]) (Nat.zero_le _),List.set_set, ← hnext, ← ZaR,List.set_append_left _ _ (by rw [Zb];exact ZS hat)]
    obtain ⟨k,nm,s,b,kids⟩:=x
    simp [Tm.cells,Tm.cl]
   obtain ⟨k,nm,s,b,kids⟩:=x
   simp only [Tm.cl,Tm.cells] at hst hl1 hcl
   repeat' first|refine Jc (hcl _) ?_|refine JJ ?_|(apply qLd;rfl;rfl;rfl;assumption;exact IsV.any _)|refine Jz ?_ ?_|refine Jo ?_|intro hb
   · exact LoopI.go (m-1) (by omega) ⟨i+1,_,by omega,Zh ⟨rfl,rfl,Zi (Zf (n:=i+1) (by omega)),trivial⟩,rfl⟩
   · exfalso;simp at hb;omega
 · have e : i = M.length := by omega
   subst e
   rw [List.take_length,List.drop_length,List.append_nil] at hnb
   rw [List.take_length,List.drop_length,List.append_nil]
   repeat' first|refine Jz ?_ ?_|refine Jo ?_|intro hb
   · exfalso;simp at hb
   · refine RetR.ret rfl ⟨clL M, D, by rw [W9]; rfl, fun h => ?_, hnb⟩
     have:=W9 M
     rw [h] at this
     exact hMne (List.length_eq_zero_iff.1 this.symm)
theorem ZkU:∀ H,CallOk E0 Tryz.prog 187 [.nils] H .nils H:=
 Xi (x:=⟨187,[.nils],.nils⟩) tOk follows fOk zOk (fuel:=100) (k:=60) (by kernel_rfl)
theorem Znn {H:Heap} {id:Nat} {M:List Tm} {D:List (List PV)} (hM:M≠ []) (hH:nth H.bx id=some (.cells 4 (Za M++D))):frz3 0 H (.own id 4 0 M.length)=some (slV true 4 (Za M)):=by
 have e:slV true 4 (Za M)= .sl .none 4 (Za M):=by
  cases M with
  | nil=>exact absurd rfl hM
  | cons a r =>
    obtain ⟨k,nm,s,b,kids⟩:=a
    exact Zw _ _ _ _
 rw [e]
 have h1:((Za M++D).drop 0).take M.length=Za M:=by rw [List.drop_zero, ← Zb M,List.take_left]
 show frzC 0 H (.own id 4 0 M.length)=_
 simp only [frzC,Nat.not_lt_zero,if_false,hH,true_and,Nat.zero_add,List.length_append,Zb,Nat.le_add_right,if_true,h1,We]
theorem Ztd (ht:t.Ok) (hsz:t.size≤90000) (kk:Int):∃ M:List Tm,(M= []↔Uj kk t.all= [])∧∀ H,CallOk E0 Tryz.prog 152 [.agg t.cells,.int .i64 kk] H (slV true 4 (Za M)) H:=by
 have hao:=Zio ht
 have hal:=t.all_len
 have hkl:=QG kk t.all
 obtain ⟨H1,hc,v',rest',rfl,hG,hF⟩:=Zlm kk (.cells 4 [t.cells]) ht (rest:=[]) (v:= .nils) (L:=[]) .nil (by simp;omega)
 rw [List.nil_append] at hG
 have hkm:∀ x,x∈Uj kk t.all→x.Ok∧x.size≤100000:=fun x hx=>by
  have:=hao x (List.mem_filter.1 hx).1
  exact ⟨this.1,by omega⟩
 generalize Uj kk t.all=L at hG hkl hkm ⊢
 unfold Wh at hc
 obtain ⟨k,nm,s,b,kids⟩:=t
 simp only [Tm.cells] at hc
 cases hG with
 | nil =>
   refine ⟨[],by simp,?_⟩
   rw [show slV true 4 (Za [])= .nils from Zn 4]
   have ho:=ZkU ⟨.cells 4 [[.int .i64 k,.str nm,.int .i64 s,slV b 4 (Za kids)]]:: .cells 1 [[.int .i64 kk]]:: .cells 1 [[.nils]]::rest',0,[],0⟩
   refine Jw tOk fe152.ok rfl ?_ (by simp [ZZ,frzG,Tm.cells,Va,frz1])
   repeat' first|refine Jc hc ?_|refine Jc ho ?_|refine Jo ?_|fail
   all_goals rfl
 | own o L hob hL =>
   obtain ⟨r,H',ho,M,D,rfl,hMne,hnb⟩:=Zm7 (id:=o+3) (bx:= .cells 4 [[.int .i64 k,.str nm,.int .i64 s,slV b 4 (Za kids)]]:: .cells 1 [[.int .i64 kk]]:: .cells 1 [[.own (o+3) 4 0 L.length]]::rest') (L:=L) (by simpa using hob) hL hkm (by omega)
   refine ⟨M,by simp [hMne,hL],?_⟩
   have hfin:=Znn hMne hnb
   obtain ⟨bx',ro',lv',nt'⟩:=H'
   refine Jw tOk fe152.ok (YV _ _ _ _ _) ?_ (by simp [ZZ,frzG,Tm.cells,Va,frz1])
   repeat' first|refine Jc hc ?_|refine Jc ho ?_|refine Jo ?_|fail
   exact hfin
theorem ZrG (ht:t.Ok) (hsz:t.size≤90000):∃ M:List Tm,(M= []↔Uj 1 t.all= [])∧∀ H,CallOk E0 Tryz.prog 103 [.agg t.cells] H (slV true 4 (Za M)) H:=by
 obtain ⟨M,hM,hc⟩:=Ztd ht hsz 1
 refine ⟨M,hM,?_⟩
 obtain ⟨k,nm,s,tb,kids⟩:=t
 refine Jw tOk fe103.ok (YV _ _ _ _ _) ?_
 repeat' first|refine Jc (hc _) ?_|refine Jo ?_|fail
 exact YV _ _ _ _ _
theorem Zqr (ht:t.Ok) (hsz:t.size≤90000):∀ H,CallOk E0 Tryz.prog 157 [.agg t.cells] H (.int .i64 t.key) H:=by
 have h1:=Zqo ht (by omega)
 obtain ⟨M,hM,h2⟩:=ZrG ht hsz
 have h3:=ZtQ ht (by omega)
 have hg:t.ground=decide (M.length=0):=by
  unfold Tm.ground
  cases h:Uj 1 t.all with
  | nil=>rw [hM.2 h];rfl
  | cons a r =>
    have h2:M≠ []:=fun e=>by rw [hM.1 e] at h;cases h
    simp [h2]
 unfold Tm.key
 rw [hg]
 generalize t.valid=e1 at h1 h3 ⊢
 generalize t.th=e2 at h1 h3 ⊢
 generalize t.fre=f at h3 ⊢
 clear hg hM
 obtain ⟨k,nm,s,tb,kids⟩:=t
 refine Jw tOk fe157.ok rfl ?_
 repeat' first|(apply qCl;rfl;rfl;rfl;rfl;first|exact h1 _|exact h2 _|exact h3 _)|refine Jl ?_|refine Jt ?_|refine Jb ?_ ?_|refine Jo ?_|intro hb
 all_goals (refine Zi ?_;clear h1 h2 h3)
 · have h9 : (if e1 ≠ 0 then e1 else e2) ≠ 0 := by simpa using hb
   by_cases c1:e1≠0
   · rw [if_pos c1,if_pos c1]
   · rw [if_neg c1] at h9
     rw [if_neg c1,if_neg c1,if_pos h9]
 all_goals
  have h9:(if e1≠0 then e1 else e2)=0:=by simpa using ‹((if e1≠0 then e1 else e2) != 0)=false›
  have c1:¬ e1≠0:=fun c=>by rw [if_pos c] at h9;exact c h9
  rw [if_neg c1] at h9
  rw [if_neg c1,if_neg (by omega)]
 · rw [if_pos]
   rw [Zb] at hb
   have:=of_decide_eq_true hb
   exact decide_eq_false (by omega)
 all_goals
  rw [if_neg (by
   have h8:= ‹decide (0<((Za M).length:Int))=false›
   rw [Zb] at h8
   have:=of_decide_eq_false h8
   rw [decide_eq_true (show M.length=0 by omega)]
   simp)]
 · rw [if_pos]
   cases f
   · rfl
   · exfalso;simp at hb;omega
 · rw [if_neg]
   intro hf
   subst hf
   simp at hb
open Go.Proofs
def ixW:List Bs→Nat→Int
 | [],_=> -1
 |a::r,i=>if ZK a=false then (i:Int) else ixW r (i+1)
theorem Zgi:∀ (l:List Bs) (i:Nat),0≤ixW l i↔Xd l=true
 | [],i=>by simp [ixW,Xd]
 | a :: r, i => by
   have ih:=Zgi r (i+1)
   simp only [ixW]
   by_cases h:ZK a=false
   · rw [if_pos h];simp [Xd,h]
   · rw [if_neg h, ih]
     have h2:ZK a=true:=by simpa using h
     simp [Xd,h2]
theorem Zik (l:List Bs) (i:Nat):decide (0≤ixW l i)=Xd l:=by
 rw [Bool.eq_iff_iff,decide_eq_true_iff];exact Zgi l i
theorem ZiV {a:Bs} (h:l[i]? = some a):ixW (l.drop i) i=if ZK a=false then (i:Int) else ixW (l.drop (i+1)) (i+1):=by
 rw [ZN h];rfl
theorem Ztk {s:Bs} (hs:s.length≤100000):∀ H,CallOk E0 Tryz.prog 201 [.str s] H (.bool (!ZK s)) H:=by
 have hc:=Zqs hs
 generalize ZK s=d at hc
 refine Jw tOk fe201.ok rfl ?_
 repeat' first|refine Jc (hc _) ?_|refine Jt ?_|refine Jb ?_ ?_|refine Jo ?_|intro hb
 all_goals (refine ifq ?_;simp at hb;simp [hb])
theorem Zrw (hl:∀ s,s∈l→s.length≤100000) (hlen:l.length≤100000) (b:Bool):∀ H,CallOk E0 Tryz.prog 237 [slV b 1 (Y1 l),.fn 201 []] H (.int .i64 (ixW l 0)) H:=by
 refine Jw tOk fe237.ok rfl ?_
 repeat' first|refine Jl ?_|refine Jo ?_|fail
 refine Wp.while (fun m tm H=>∃ (i:Nat) (base:TM),i+m=l.length∧ixW l 0=ixW (l.drop i) i∧tm=ovr base [(0,slV b 1 (Y1 l)),(1,.fn 201 []),(7,.int .i64 (l.length:Int)),(8,.int .i64 (i:Int))]∧H=⟨[],0,[],0⟩)
  (fun m tm H hI=>?_) l.length _ _ ⟨0,_,by omega,by simp,Zh ⟨rfl,rfl,Zi (by rw [XD]),rfl,trivial⟩,rfl⟩
 obtain ⟨i,base,hi,hgo,rfl,rfl⟩:=hI
 rw [hgo]
 by_cases hlt:i<l.length
 · obtain ⟨a, ha⟩ : ∃ a, l[i]? = some a := ⟨l[i], by simp⟩
   have hj:=Qw ha
   have hc:=Ztk (hl a (List.mem_of_getElem? ha))
   rw [ZiV ha]
   cases hd:ZK a with
   | false =>
     rw [hd] at hc
     have hc:∀ H,CallOk E0 Tryz.prog 201 [.str a] H (.bool true) H:=hc
     repeat' first|refine Jc (hc _) ?_|refine Jx ?_|refine Jz ?_ ?_|refine Jo ?_|intro hb
     · rfl
     · exfalso;simp at hb;omega
   | true =>
     rw [hd] at hc
     have hc:∀ H,CallOk E0 Tryz.prog 201 [.str a] H (.bool false) H:=hc
     repeat' first|refine Jc (hc _) ?_|refine Jx ?_|refine Jz ?_ ?_|refine Jo ?_|intro hb
     · exact LoopI.go (m-1) (by omega) ⟨i+1,_,by omega,rfl,Zh ⟨rfl,rfl,rfl,Zi (Zf (n:=i+1) (by omega)),trivial⟩,rfl⟩
     · exfalso;simp at hb;omega
 · have e : i = l.length := by omega
   subst e
   repeat' first|refine Jz ?_ ?_|refine Jo ?_|intro hb
   · exfalso;simp at hb
   · rw [List.drop_length];rfl
theorem ZrT (hl:∀ s,s∈l→s.length≤100000) (hlen:l.length≤100000) (b:Bool):∀ H,CallOk E0 Tryz.prog 200 [slV b 1 (Y1 l),.fn 201 []] H (.bool (Xd l)) H:=by
 have hc:=Zrw hl hlen b
 rw [← Zik l 0]
 generalize ixW l 0=x at hc
 refine Jw tOk fe200.ok rfl ?_
 repeat' first|refine Jc (hc _) ?_|refine Jt ?_|refine Jb ?_ ?_|refine Jo ?_|intro hb
 all_goals (refine ifq ?_;simp at hb;simp [hb])
theorem ZqH (hl:∀ s,s∈l→s.length≤100000) (hlen:l.length≤100000) (b:Bool):∀ H,CallOk E0 Tryz.prog 162 [slV b 1 (Y1 l)] H (.bool (Xd l)) H:=by
 have hc:=ZrT hl hlen b
 generalize Xd l=w at hc
 refine Jw tOk fe162.ok rfl ?_
 repeat' first|refine Jc (hc _) ?_|refine Jt ?_|refine Jb ?_ ?_|refine Jo ?_|intro hb
 all_goals (cases w<;>first|rfl|cases hb)
def ixO:List Int→Nat→Int
 | [],_=> -1
 |a::r,i=>if Wu a=true then (i:Int) else ixO r (i+1)
theorem Zhc:∀ (l:List Int) (i:Nat),0≤ixO l i↔l.any Wu=true
 | [],i=>by simp [ixO]
 | a :: r, i => by
   have ih:=Zhc r (i+1)
   simp only [ixO]
   by_cases h:Wu a=true
   · rw [if_pos h];simp [h]
   · rw [if_neg h,ih];simp [h]
theorem ZkX (l:List Int) (i:Nat):decide (0≤ixO l i)=l.any Wu:=by
 rw [Bool.eq_iff_iff,decide_eq_true_iff];exact Zhc l i
theorem Zjg {l:List Int} {a:Int} (h:l[i]? = some a):ixO (l.drop i) i=if Wu a=true then (i:Int) else ixO (l.drop (i+1)) (i+1):=by
 rw [ZN h];rfl
theorem ZsI (n:Int):∀ H,CallOk E0 Tryz.prog 161 [.int .i64 n] H (.bool (Wu n)) H:=by
 refine Jw tOk fe161.ok rfl ?_
 repeat' first|refine Jk ?_|refine Jt ?_|refine Jb ?_ ?_|refine Jo ?_|intro hb
 all_goals (refine ifq ?_;simp [Wu] at *;omega)
theorem Ztj {l:List Int} (hlen:l.length≤100000) (b:Bool):∀ H,CallOk E0 Tryz.prog 202 [slV b 1 (ZjZ l),.fn 161 []] H (.int .i64 (ixO l 0)) H:=by
 refine Jw tOk fe202.ok rfl ?_
 repeat' first|refine Jl ?_|refine Jo ?_|fail
 refine Wp.while (fun m tm H=>∃ (i:Nat) (base:TM),i+m=l.length∧ixO l 0=ixO (l.drop i) i∧tm=ovr base [(0,slV b 1 (ZjZ l)),(1,.fn 161 []),(7,.int .i64 (l.length:Int)),(8,.int .i64 (i:Int))]∧H=⟨[],0,[],0⟩)
  (fun m tm H hI=>?_) l.length _ _ ⟨0,_,by omega,by simp,Zh ⟨rfl,rfl,Zi (by rw [Zi1]),rfl,trivial⟩,rfl⟩
 obtain ⟨i,base,hi,hgo,rfl,rfl⟩:=hI
 rw [hgo]
 by_cases hlt:i<l.length
 · obtain ⟨a, ha⟩ : ∃ a, l[i]? = some a := ⟨l[i], by simp⟩
   have hj:=ZiJ ha
   have hc:=ZsI a
   rw [Zjg ha]
   cases hd:Wu a with
   | true =>
     rw [hd] at hc
     repeat' first|refine Jc (hc _) ?_|refine Jx ?_|refine Jz ?_ ?_|refine Jo ?_|intro hb
     · rfl
     · exfalso;simp at hb;omega
   | false =>
     rw [hd] at hc
     repeat' first|refine Jc (hc _) ?_|refine Jx ?_|refine Jz ?_ ?_|refine Jo ?_|intro hb
     · exact LoopI.go (m-1) (by omega) ⟨i+1,_,by omega,rfl,Zh ⟨rfl,rfl,rfl,Zi (Zf (n:=i+1) (by omega)),trivial⟩,rfl⟩
     · exfalso;simp at hb;omega
 · have e : i = l.length := by omega
   subst e
   repeat' first|refine Jz ?_ ?_|refine Jo ?_|intro hb
   · exfalso;simp at hb
   · rw [List.drop_length];rfl
theorem ZrA {l:List Int} (hlen:l.length≤100000) (b:Bool):∀ H,CallOk E0 Tryz.prog 163 [slV b 1 (ZjZ l),.fn 161 []] H (.bool (l.any Wu)) H:=by
 have hc:=Ztj hlen b
 rw [← ZkX l 0]
 generalize ixO l 0=x at hc
 refine Jw tOk fe163.ok rfl ?_
 repeat' first|refine Jc (hc _) ?_|refine Jt ?_|refine Jb ?_ ?_|refine Jo ?_|intro hb
 all_goals (refine ifq ?_;simp at hb;simp [hb])
theorem Zmo (t:Tm) (nm:Bs) (n:Nat):∀ H,CallOk E0 Tryz.prog 105 [.agg t.cells,.str nm,.int .i64 (n:Int)] H (.bool (t.isB nm n)) H:=by
 obtain ⟨k,m,s,b,kids⟩:=t
 refine Jw tOk fe105.ok rfl ?_ (by simp [ZZ,frzG,Tm.cells,Va,frz1])
 repeat' first|refine Jk ?_|refine Jl ?_|refine Jt ?_|refine Jb ?_ ?_|refine Jo ?_|intro hb
 all_goals (refine ifq ?_;show _=(decide (k=3)&&((m==nm)&&decide (kids.length=n))))
 all_goals first
  | (have h1:= ‹(k==3)=false›;simp at h1;simp [h1];done)
  | (rw [‹(m==nm)=false›];simp;done)
  | (have h1 := ‹(k == 3) = true›
     rw [‹(m==nm)=true›]
     rw [Zb] at hb
     simp at h1 hb
     have h3:kids.length=n:=by omega
     simp [h1,h3]
     done)
  | (rw [Zb] at hb
     simp at hb
     have h3:¬ kids.length=n:=by omega
     simp [h3]
     done)
theorem ZqZ (x : Cred) (h1 : x.sub.length ≤ 100000) (hk : x.key.Ok) (hks : x.key.size ≤ 90000) (hp : ∀ s, s ∈ x.per → s.length ≤ 100000) (he : ∀ s, s ∈ x.exc → s.length ≤ 100000) (hpl : x.per.length ≤ 100000) (hel : x.exc.length ≤ 100000) :
  ∀ H,CallOk E0 Tryz.prog 117 [.agg x.cells] H (.int .i64 x.valid) H:=by
 obtain ⟨sub,key,iss,pn,per,en,exc,ser,fr,till⟩:=x
 simp only [] at h1 hk hks hp he hpl hel
 have c1:=Zqs h1
 have c2:=Zqr hk hks
 have c3:=Zmo key [112,107] 1
 have c4:=ZqH hp hpl pn
 have c5:=ZqH he hel en
 have c6:∀ H,CallOk E0 Tryz.prog 163 [.sl .full 1 [[.int .i64 ser],[.int .i64 fr],[.int .i64 till]],.fn 161 []] H (.bool ([ser,fr,till].any Wu)) H:=fun H=>
  Z8 (ZrA (l:=[ser,fr,till]) (by simp) true hNil) (by
   rw [show slV true 1 (ZjZ [ser,fr,till])= .sl .none 1 [[.int .i64 ser],[.int .i64 fr],[.int .i64 till]] from Zw _ _ _ _]
   rfl) rfl H
 simp only [Cred.valid]
 generalize ZK sub=d at c1
 generalize key.key=e at c2
 generalize key.isB [112,107] 1=i3 at c3
 generalize Xd per=w1 at c4
 generalize Xd exc=w2 at c5
 generalize [ser,fr,till].any Wu=o at c6
 obtain ⟨k,nm,s,b,kids⟩:=key
 simp only [Tm.cells] at c2 c3
 simp only [Cred.cells,Tm.cells,List.cons_append,List.nil_append]
 have hco:[slV pn 1 (Y1 per),slV en 1 (Y1 exc)].all Z4=true:=by simp only [List.all_cons,List.all_nil,Ya,Bool.and_self]
 refine Jw tOk fe117.ok rfl ?_
 repeat' first|refine Jk ?_|(apply qCl;rfl;rfl;rfl;rfl;first|exact c1 _|exact c2 _|exact c3 _|exact c4 _|exact c5 _|exact c6 _)|refine Js ?_|refine Jl ?_|refine Jt ?_|refine Jb ?_ ?_|refine Jo ?_|intro hb
 all_goals (refine Zi ?_;clear c1 c2 c3 c4 c5 c6 h1 hp he hk hks hco)
 all_goals
  have hwr:IntKind.i64.wrap ((per.length:Int)+(exc.length:Int))=(per.length:Int)+(exc.length:Int):=IntWalk.i64_in _ (by omega)
  simp only [XD,hwr,Bool.not_eq_true',Bool.not_eq_false',bne_iff_ne,bne_eq_false_iff_eq,decide_eq_true_eq,decide_eq_false_iff_not,ne_eq] at *
  subst_vars
  (repeat' split)<;>first|rfl|omega|(exfalso;simp_all;done)|(simp_all;done)|(exfalso;simp_all;omega)
end Go.Vm.Seat
