/-
  What the shelf knows of slices.SortFunc at this program's terms. The variables of a term, and what a key must be: the program's text. Credentials: nam
-/
import Derived.Test.YtkaocdljkonfaaaGreatDoorProg
import Derived.Test.YtkaocdljkonfaaaGreatDoorVc
set_option maxHeartbeats 64000000
set_option maxRecDepth 100000
namespace Go.Proofs
open Go.Shelf
def Tryz.sortTm_ren:Go.Shelf.Ren:=⟨fun|6=>223|15=>251|14=>250|28=>276|29=>245|20=>268|21=>269|22=>270|23=>271|24=>272|25=>273|26=>274|27=>275|46=>286|47=>287|48=>288|49=>289|50=>290|57=>296|n=>n,fun|22=>22|24=>24|25=>97|3=>3|39=>172|0=>0|53=>212|55=>195|4=>4|46=>241|45=>240|50=>147|5=>5|9=>9|66=>257|70=>142|76=>263|77=>264|n=>n,fun|n=>n⟩
theorem Tryz.sortTm:Go.Proofs.SlLaysF0.n6 Tryz.prog Tryz.sortTm_ren:={
 mixed:=by kernel_rfl
 f6:=⟨Tryz.f223.name,by decide,Tryz.func223.trans (congrArg some (by kernel_rfl))⟩
 f14:=⟨Tryz.f250.name,by decide,Tryz.func250.trans (congrArg some (by kernel_rfl))⟩
 f15:=Tryz.func251.trans (congrArg some (by kernel_rfl))
 f20:=⟨Tryz.f268.name,by decide,Tryz.func268.trans (congrArg some (by kernel_rfl))⟩
 f21:=⟨Tryz.f269.name,by decide,Tryz.func269.trans (congrArg some (by kernel_rfl))⟩
 f22:=⟨Tryz.f270.name,by decide,Tryz.func270.trans (congrArg some (by kernel_rfl))⟩
 f23:=⟨Tryz.f271.name,by decide,Tryz.func271.trans (congrArg some (by kernel_rfl))⟩
 f24:=⟨Tryz.f272.name,by decide,Tryz.func272.trans (congrArg some (by kernel_rfl))⟩
 f25:=⟨Tryz.f273.name,by decide,Tryz.func273.trans (congrArg some (by kernel_rfl))⟩
 f26:=⟨Tryz.f274.name,by decide,Tryz.func274.trans (congrArg some (by kernel_rfl))⟩
 f27:=⟨Tryz.f275.name,by decide,Tryz.func275.trans (congrArg some (by kernel_rfl))⟩
 f28:=Tryz.func276.trans (congrArg some (by kernel_rfl))
 f29:=Tryz.func245.trans (congrArg some (by kernel_rfl))
 f46:=⟨Tryz.f286.name,by decide,Tryz.func286.trans (congrArg some (by kernel_rfl))⟩
 f47:=Tryz.func287.trans (congrArg some (by kernel_rfl))
 f48:=Tryz.func288.trans (congrArg some (by kernel_rfl))
 f49:=⟨Tryz.f289.name,by decide,Tryz.func289.trans (congrArg some (by kernel_rfl))⟩
 f50:=⟨Tryz.f290.name,by decide,Tryz.func290.trans (congrArg some (by kernel_rfl))⟩
 f57:=⟨Tryz.f296.name,by decide,Tryz.func296.trans (congrArg some (by kernel_rfl))⟩
 t0:=Tryz.underlying0
 a0:=Tryz.isAgg0
 z0:=Tryz.sizeOf0
 v0:=Tryz.zeroValue0
 t3:=Tryz.underlying3
 a3:=Tryz.isAgg3
 z3:=Tryz.sizeOf3
 v3:=Tryz.zeroValue3
 t4:=Tryz.underlying4
 a4:=Tryz.isAgg4
 z4:=Tryz.sizeOf4
 v4:=Tryz.zeroValue4
 t5:=Tryz.underlying5
 a5:=Tryz.isAgg5
 z5:=Tryz.sizeOf5
 v5:=Tryz.zeroValue5
 t9:=Tryz.underlying9
 a9:=Tryz.isAgg9
 z9:=Tryz.sizeOf9
 v9:=Tryz.zeroValue9
 t22:=Tryz.underlying22
 a22:=Tryz.isAgg22
 z22:=Tryz.sizeOf22
 v22:=Tryz.zeroValue22
 t25:=Tryz.underlying97
 a25:=Tryz.isAgg97
 z25:=Tryz.sizeOf97
 v25:=Tryz.zeroValue97
 t39:=Tryz.underlying172
 a39:=Tryz.isAgg172
 z39:=Tryz.sizeOf172
 v39:=Tryz.zeroValue172
 t45:=Tryz.underlying240
 a45:=Tryz.isAgg240
 z45:=Tryz.sizeOf240
 v45:=Tryz.zeroValue240
 t46:=Tryz.underlying241
 a46:=Tryz.isAgg241
 z46:=Tryz.sizeOf241
 v46:=Tryz.zeroValue241
 t50:=Tryz.underlying147
 a50:=Tryz.isAgg147
 z50:=Tryz.sizeOf147
 v50:=Tryz.zeroValue147
 t53:=Tryz.underlying212
 a53:=Tryz.isAgg212
 z53:=Tryz.sizeOf212
 v53:=Tryz.zeroValue212
 t55:=Tryz.underlying195
 a55:=Tryz.isAgg195
 z55:=Tryz.sizeOf195
 v55:=Tryz.zeroValue195
 t66:=Tryz.underlying257
 a66:=Tryz.isAgg257
 z66:=Tryz.sizeOf257
 v66:=Tryz.zeroValue257
 t70:=Tryz.underlying142
 a70:=Tryz.isAgg142
 z70:=Tryz.sizeOf142
 v70:=Tryz.zeroValue142
 t76:=Tryz.underlying263
 a76:=Tryz.isAgg263
 z76:=Tryz.sizeOf263
 v76:=Tryz.zeroValue263
 t77:=Tryz.underlying264
 a77:=Tryz.isAgg264
 z77:=Tryz.sizeOf264
 v77:=Tryz.zeroValue264}
end Go.Proofs
namespace Go.Vm.Seat
variable {bx:List Box} {L:List Tm} {t:Tm} {l:List Bs} {i:Nat} {a s:Bs}
open Go.Proofs
theorem Zmn {id : Nat} (hid : bx[id]? = some (.cells 4 (Za L))) (hL : L ≠ []) (hok : ∀ x, x ∈ L → x.Ok ∧ x.size ≤ 100000) (hlen : L.length ≤ 100000) :
  CallOk E0 Tryz.prog 223 [.own id 4 0 L.length,.fn 77 []] ⟨bx,0,[],0⟩ (.tup []) ⟨bx.set id (.cells 4 (Za (Uo L))),0,[],0⟩:=
 Zmr (E:=E0) (E1:=E1) (H:=⟨bx,0,[],0⟩) fe223.ok fe77.ok ⟨rfl,rfl⟩ rfl
  (fun enc h4 h1 cf hO blk off cap d w eg hcmp hH hblk hsz=>AnyQ.slices_SortFunc_eq Tryz.sortTm 4 Tryz.isAgg24 Tryz.sizeOf24 enc h4 h1 cf hO 77 #[] blk off cap d w eg hcmp hH hblk hsz)
  hL (N:=100000) (fun t ht=>(hok t ht).2) (fun a b ha hb=>d77 (hok a ha).1 (hok b hb).1 (by have:=(hok a ha).2;omega) (by have:=(hok b hb).2;omega) _) (by omega) hid (Nat.zero_le _)
def Zqo (id:Nat) (r:PV) (H:Heap):Prop:=∃ (M:List Tm) (D:List (List PV)),r= .own id 4 0 M.length∧M≠ []∧nth H.bx id=some (.cells 4 (Za M++D))
theorem ZnX {id : Nat} (hid : bx[id]? = some (.cells 4 (Za L))) (hL : L ≠ []) (hok : ∀ x, x ∈ L → x.Ok ∧ x.size ≤ 100000) (hlen : L.length ≤ 100000) :
  ∃ r H',CallOk E0 Tryz.prog 187 [.own id 4 0 L.length] ⟨bx,0,[],0⟩ r H'∧Zqo id r H':=by
 have hlt:=ZN hid
 have hs:=Zmn hid hL hok hlen
 have hp:=Zg9 hL (N:=100000) fun t ht=>(hok t ht).2
 have hsl:(Uo L).length=L.length:=hp.length_eq
 have hsne:Uo L≠ []:=fun h=>by rw [h] at hsl;exact hL (List.length_eq_zero_iff.1 hsl.symm)
 have hsm:∀ x,x∈Uo L→x∈L:=fun x hx=>hp.mem_iff.1 hx
 obtain ⟨r1,H1,hc,M,D,rfl,rfl,hMl,hMne,hMm⟩:=Zhc (id:=id) (bx:=bx.set id (.cells 4 (Za (Uo L)))) (L:=Uo L) (by simp [hlt]) (fun x hx=>hok x (hsm x hx)) (by omega)
 rw [hsl] at hc
 rw [List.set_set] at hc
 have hMne:=hMne hsne
 refine ZW (own:=fun _=>false) tOk fe187.ok ?_
 refine Wp.seq ?_
 repeat' first|refine Jc hs ?_|refine Jc hc ?_|refine Jo ?_|fail
 refine Wp.while (fun m tm H=>∃ (i:Nat) (base:TM),i+m=M.length∧tm=ovr base [(0,.own id 4 0 M.length),(9,.int .i64 (M.length:Int)),(10,.int .i64 (i:Int))]∧H=⟨bx.set id (.cells 4 (Za (clL (M.take i)++M.drop i)++D)),0,[],0⟩)
  (fun m tm H hI=>?_) M.length _ _ ⟨0,_,by omega,Zi ⟨rfl,rfl,rfl,trivial⟩,by simp [clL]⟩
 obtain ⟨i,base,hi,rfl,rfl⟩:=hI
 have hnb:nth (bx.set id (.cells 4 (Za (clL (M.take i)++M.drop i)++D))) id=some (.cells 4 (Za (clL (M.take i)++M.drop i)++D)):=by rw [ZA];simp [hlt]
 by_cases hilt:i<M.length
 · obtain ⟨x, hx⟩ : ∃ x, M[i]? = some x := ⟨M[i], by simp⟩
   have hxm:=hMm x (List.mem_of_getElem? hx)
   have hxo:=hok x (hsm x hxm)
   have hlen1:(clL (M.take i)).length=i:=by rw [Vj,List.length_take];omega
   have hat:(clL (M.take i)++M.drop i)[i]? = some x:=by
    rw [List.getElem?_append_right (by omega),hlen1,Nat.sub_self,List.getElem?_drop];simpa using hx
   have hnext:(clL (M.take i)++M.drop i).set i x.cl=clL (M.take (i+1))++M.drop (i+1):=by
    rw [QS hx,ZM hx,List.set_append_right _ _ (by omega),hlen1,Nat.sub_self]
    simp
   have hcell:nth (Za (clL (M.take i)++M.drop i)++D) i=some x.cells:=by
    obtain ⟨k,nm,s,b,kids⟩:=x
    rw [ZA,List.getElem?_append_left (by rw [Zb];exact ZN hat)]
    exact Zk hat
   have hi1:=ZgB (id:=id) (ix:=0) (len:=M.length) hilt
   have hl1:YP E0 24 (.ptr id 4 (0+i) 0) ⟨bx.set id (.cells 4 (Za (clL (M.take i)++M.drop i)++D)),0,[],0⟩=some (.agg x.cells):=by
    rw [Nat.zero_add]
    exact Zag rfl rfl hnb hcell (by obtain ⟨k,nm,s,b,kids⟩:=x;rfl)
   have hcl:=ZsL hxo.1 hxo.2
   have hst:Heap.wr ⟨bx.set id (.cells 4 (Za (clL (M.take i)++M.drop i)++D)),0,[],0⟩ (.ptr id 4 (0+i) 0) x.cl.cells=some ⟨bx.set id (.cells 4 (Za (clL (M.take (i+1))++M.drop (i+1))++D)),0,[],0⟩:=by
    rw [Nat.zero_add,ZgK hnb hcell (by obtain ⟨k,nm,s,b,kids⟩:=x;simp [Tm.cells,Tm.cl]) (Nat.zero_le _),List.set_set, ← hnext, ← ZbL,List.set_append_left _ _ (by rw [Zb];exact ZN hat)]
    obtain ⟨k,nm,s,b,kids⟩:=x
    simp [Tm.cells,Tm.cl]
   obtain ⟨k,nm,s,b,kids⟩:=x
   simp only [Tm.cl,Tm.cells] at hst hl1 hcl
   repeat' first|refine Jc (hcl _) ?_|refine JJ ?_|(apply qLd;rfl;rfl;rfl;assumption;exact IsV.any _)|refine Jz ?_ ?_|refine Jo ?_|intro hb
   · exact LoopI.go (m-1) (by omega) ⟨i+1,_,by omega,Zi ⟨rfl,rfl,Zh (Ze (n:=i+1) (by omega)),trivial⟩,rfl⟩
   · exfalso;simp at hb;omega
 · have e : i = M.length := by omega
   subst e
   rw [List.take_length,List.drop_length,List.append_nil] at hnb
   rw [List.take_length,List.drop_length,List.append_nil]
   repeat' first|refine Jz ?_ ?_|refine Jo ?_|intro hb
   · exfalso;simp at hb
   · refine RetR.ret rfl ⟨clL M, D, by rw [Vj]; rfl, fun h => ?_, hnb⟩
     have:=Vj M
     rw [h] at this
     exact hMne (List.length_eq_zero_iff.1 this.symm)
theorem Zm7:∀ H,CallOk E0 Tryz.prog 187 [.nils] H .nils H:=
 Xn (x:=⟨187,[.nils],.nils⟩) tOk follows fOk zOk (fuel:=100) (k:=60) (by kernel_rfl)
theorem ZnA {H:Heap} {id:Nat} {M:List Tm} {D:List (List PV)} (hM:M≠ []) (hH:nth H.bx id=some (.cells 4 (Za M++D))):frz3 0 H (.own id 4 0 M.length)=some (slV true 4 (Za M)):=by
 have e:slV true 4 (Za M)= .sl .none 4 (Za M):=by
  cases M with
  | nil=>exact absurd rfl hM
  | cons a r =>
    obtain ⟨k,nm,s,b,kids⟩:=a
    exact Zw _ _ _ _
 rw [e]
 have h1:((Za M++D).drop 0).take M.length=Za M:=by rw [List.drop_zero, ← Zb M,List.take_left]
 show frzC 0 H (.own id 4 0 M.length)=_
 simp only [frzC,Nat.not_lt_zero,if_false,hH,true_and,Nat.zero_add,List.length_append,Zb,Nat.le_add_right,if_true,h1,Qu]
theorem Zvk (ht:t.Ok) (hsz:t.size≤90000) (kk:Int):∃ M:List Tm,(M= []↔V8 kk t.all= [])∧∀ H,CallOk E0 Tryz.prog 152 [.agg t.cells,.int .i64 kk] H (slV true 4 (Za M)) H:=by
 have hao:=ZiX ht
 have hal:=t.all_len
 have hkl:=Q4 kk t.all
 obtain ⟨H1,hc,v',rest',rfl,hG,hF⟩:=Zl1 kk (.cells 4 [t.cells]) ht (rest:=[]) (v:= .nils) (L:=[]) .nil (by simp;omega)
 rw [List.nil_append] at hG
 have hkm:∀ x,x∈V8 kk t.all→x.Ok∧x.size≤100000:=fun x hx=>by
  have:=hao x (List.mem_filter.1 hx).1
  exact ⟨this.1,by omega⟩
 generalize V8 kk t.all=L at hG hkl hkm ⊢
 unfold Wh at hc
 obtain ⟨k,nm,s,b,kids⟩:=t
 simp only [Tm.cells] at hc
 cases hG with
 | nil =>
   refine ⟨[],by simp,?_⟩
   rw [show slV true 4 (Za [])= .nils from Zq 4]
   have ho:=Zm7 ⟨.cells 4 [[.int .i64 k,.str nm,.int .i64 s,slV b 4 (Za kids)]]:: .cells 1 [[.int .i64 kk]]:: .cells 1 [[.nils]]::rest',0,[],0⟩
   refine Jw tOk fe152.ok rfl ?_ (by simp [ZC,frzG,Tm.cells,Vg,frz1])
   repeat' first|refine Jc hc ?_|refine Jc ho ?_|refine Jo ?_|fail
   all_goals rfl
 | own o L hob hL =>
   obtain ⟨r,H',ho,M,D,rfl,hMne,hnb⟩:=ZnX (id:=o+3) (bx:= .cells 4 [[.int .i64 k,.str nm,.int .i64 s,slV b 4 (Za kids)]]:: .cells 1 [[.int .i64 kk]]:: .cells 1 [[.own (o+3) 4 0 L.length]]::rest') (L:=L) (by simpa using hob) hL hkm (by omega)
   refine ⟨M,by simp [hMne,hL],?_⟩
   have hfin:=ZnA hMne hnb
   obtain ⟨bx',ro',lv',nt'⟩:=H'
   refine Jw tOk fe152.ok (Y2 _ _ _ _ _) ?_ (by simp [ZC,frzG,Tm.cells,Vg,frz1])
   repeat' first|refine Jc hc ?_|refine Jc ho ?_|refine Jo ?_|fail
   exact hfin
theorem ZrY (ht:t.Ok) (hsz:t.size≤90000):∃ M:List Tm,(M= []↔V8 1 t.all= [])∧∀ H,CallOk E0 Tryz.prog 103 [.agg t.cells] H (slV true 4 (Za M)) H:=by
 obtain ⟨M,hM,hc⟩:=Zvk ht hsz 1
 refine ⟨M,hM,?_⟩
 obtain ⟨k,nm,s,tb,kids⟩:=t
 refine Jw tOk fe103.ok (Y2 _ _ _ _ _) ?_
 repeat' first|refine Jc (hc _) ?_|refine Jo ?_|fail
 exact Y2 _ _ _ _ _
theorem Zst (ht:t.Ok) (hsz:t.size≤90000):∀ H,CallOk E0 Tryz.prog 157 [.agg t.cells] H (.int .i64 t.key) H:=by
 have h1:=Zsc ht (by omega)
 obtain ⟨M,hM,h2⟩:=ZrY ht hsz
 have h3:=Zso ht (by omega)
 have hg:t.ground=decide (M.length=0):=by
  unfold Tm.ground
  cases h:V8 1 t.all with
  | nil=>rw [hM.2 h];rfl
  | cons a r =>
    have h2:M≠ []:=fun e=>by rw [hM.1 e] at h;cases h
    simp [h2]
 unfold Tm.key
 rw [hg]
 generalize t.valid=e1 at h1 h3 ⊢
 generalize t.th=e2 at h1 h3 ⊢
 generalize t.fre=f at h3 ⊢
 clear hg hM
 obtain ⟨k,nm,s,tb,kids⟩:=t
 refine Jw tOk fe157.ok rfl ?_
 repeat' first|(apply qCl;rfl;rfl;rfl;rfl;first|exact h1 _|exact h2 _|exact h3 _)|refine Jl ?_|refine Jt ?_|refine Jb ?_ ?_|refine Jo ?_|intro hb
 all_goals (refine Zh ?_;clear h1 h2 h3)
 · have h9 : (if e1 ≠ 0 then e1 else e2) ≠ 0 := by simpa using hb
   by_cases c1:e1≠0
   · rw [if_pos c1,if_pos c1]
   · rw [if_neg c1] at h9
     rw [if_neg c1,if_neg c1,if_pos h9]
 all_goals
  have h9:(if e1≠0 then e1 else e2)=0:=by simpa using ‹((if e1≠0 then e1 else e2) != 0)=false›
  have c1:¬ e1≠0:=fun c=>by rw [if_pos c] at h9;exact c h9
  rw [if_neg c1] at h9
  rw [if_neg c1,if_neg (by omega)]
 · rw [if_pos]
   rw [Zb] at hb
   have:=of_decide_eq_true hb
   exact decide_eq_false (by omega)
 all_goals
  rw [if_neg (by
   have h8:= ‹decide (0<((Za M).length:Int))=false›
   rw [Zb] at h8
   have:=of_decide_eq_false h8
   rw [decide_eq_true (show M.length=0 by omega)]
   simp)]
 · rw [if_pos]
   cases f
   · rfl
   · exfalso;simp at hb;omega
 · rw [if_neg]
   intro hf
   subst hf
   simp at hb
open Go.Proofs
def ixW:List Bs→Nat→Int
 | [],_=> -1
 |a::r,i=>if ZK a=false then (i:Int) else ixW r (i+1)
theorem Zh0:∀ (l:List Bs) (i:Nat),0≤ixW l i↔Xi l=true
 | [],i=>by simp [ixW,Xi]
 | a :: r, i => by
   have ih:=Zh0 r (i+1)
   simp only [ixW]
   by_cases h:ZK a=false
   · rw [if_pos h];simp [Xi,h]
   · rw [if_neg h, ih]
     have h2:ZK a=true:=by simpa using h
     simp [Xi,h2]
theorem ZjJ (l:List Bs) (i:Nat):decide (0≤ixW l i)=Xi l:=by
 rw [Bool.eq_iff_iff,decide_eq_true_iff];exact Zh0 l i
theorem Zke (h:l[i]? = some a):ixW (l.drop i) i=if ZK a=false then (i:Int) else ixW (l.drop (i+1)) (i+1):=by
 rw [ZM h];rfl
theorem Zvt (hs:s.length≤100000):∀ H,CallOk E0 Tryz.prog 201 [.str s] H (.bool (!ZK s)) H:=by
 have hc:=ZsF hs
 generalize ZK s=d at hc
 refine Jw tOk fe201.ok rfl ?_
 repeat' first|refine Jc (hc _) ?_|refine Jt ?_|refine Jb ?_ ?_|refine Jo ?_|intro hb
 all_goals (refine ifq ?_;simp at hb;simp [hb])
theorem ZtZ (hl:∀ s,s∈l→s.length≤100000) (hlen:l.length≤100000) (b:Bool):∀ H,CallOk E0 Tryz.prog 237 [slV b 1 (Y8 l),.fn 201 []] H (.int .i64 (ixW l 0)) H:=by
 refine Jw tOk fe237.ok rfl ?_
 repeat' first|refine Jl ?_|refine Jo ?_|fail
 refine Wp.while (fun m tm H=>∃ (i:Nat) (base:TM),i+m=l.length∧ixW l 0=ixW (l.drop i) i∧tm=ovr base [(0,slV b 1 (Y8 l)),(1,.fn 201 []),(7,.int .i64 (l.length:Int)),(8,.int .i64 (i:Int))]∧H=⟨[],0,[],0⟩)
  (fun m tm H hI=>?_) l.length _ _ ⟨0,_,by omega,by simp,Zi ⟨rfl,rfl,Zh (by rw [XN]),rfl,trivial⟩,rfl⟩
 obtain ⟨i,base,hi,hgo,rfl,rfl⟩:=hI
 rw [hgo]
 by_cases hlt:i<l.length
 · obtain ⟨a, ha⟩ : ∃ a, l[i]? = some a := ⟨l[i], by simp⟩
   have hj:=QQ ha
   have hc:=Zvt (hl a (List.mem_of_getElem? ha))
   rw [Zke ha]
   cases hd:ZK a with
   | false =>
     rw [hd] at hc
     have hc:∀ H,CallOk E0 Tryz.prog 201 [.str a] H (.bool true) H:=hc
     repeat' first|refine Jc (hc _) ?_|refine Jx ?_|refine Jz ?_ ?_|refine Jo ?_|intro hb
     · rfl
     · exfalso;simp at hb;omega
   | true =>
     rw [hd] at hc
     have hc:∀ H,CallOk E0 Tryz.prog 201 [.str a] H (.bool false) H:=hc
     repeat' first|refine Jc (hc _) ?_|refine Jx ?_|refine Jz ?_ ?_|refine Jo ?_|intro hb
     · exact LoopI.go (m-1) (by omega) ⟨i+1,_,by omega,rfl,Zi ⟨rfl,rfl,rfl,Zh (Ze (n:=i+1) (by omega)),trivial⟩,rfl⟩
     · exfalso;simp at hb;omega
 · have e : i = l.length := by omega
   subst e
   repeat' first|refine Jz ?_ ?_|refine Jo ?_|intro hb
   · exfalso;simp at hb
   · rw [List.drop_length];rfl
theorem Zun (hl:∀ s,s∈l→s.length≤100000) (hlen:l.length≤100000) (b:Bool):∀ H,CallOk E0 Tryz.prog 200 [slV b 1 (Y8 l),.fn 201 []] H (.bool (Xi l)) H:=by
 have hc:=ZtZ hl hlen b
 rw [← ZjJ l 0]
 generalize ixW l 0=x at hc
 refine Jw tOk fe200.ok rfl ?_
 repeat' first|refine Jc (hc _) ?_|refine Jt ?_|refine Jb ?_ ?_|refine Jo ?_|intro hb
 all_goals (refine ifq ?_;simp at hb;simp [hb])
theorem Zsn (hl:∀ s,s∈l→s.length≤100000) (hlen:l.length≤100000) (b:Bool):∀ H,CallOk E0 Tryz.prog 162 [slV b 1 (Y8 l)] H (.bool (Xi l)) H:=by
 have hc:=Zun hl hlen b
 generalize Xi l=w at hc
 refine Jw tOk fe162.ok rfl ?_
 repeat' first|refine Jc (hc _) ?_|refine Jt ?_|refine Jb ?_ ?_|refine Jo ?_|intro hb
 all_goals (cases w<;>first|rfl|cases hb)
def ixO:List Int→Nat→Int
 | [],_=> -1
 |a::r,i=>if QC a=true then (i:Int) else ixO r (i+1)
theorem ZjI:∀ (l:List Int) (i:Nat),0≤ixO l i↔l.any QC=true
 | [],i=>by simp [ixO]
 | a :: r, i => by
   have ih:=ZjI r (i+1)
   simp only [ixO]
   by_cases h:QC a=true
   · rw [if_pos h];simp [h]
   · rw [if_neg h,ih];simp [h]
theorem ZmO (l:List Int) (i:Nat):decide (0≤ixO l i)=l.any QC:=by
 rw [Bool.eq_iff_iff,decide_eq_true_iff];exact ZjI l i
theorem Zkc {l:List Int} {a:Int} (h:l[i]? = some a):ixO (l.drop i) i=if QC a=true then (i:Int) else ixO (l.drop (i+1)) (i+1):=by
 rw [ZM h];rfl
theorem ZuR (n:Int):∀ H,CallOk E0 Tryz.prog 161 [.int .i64 n] H (.bool (QC n)) H:=by
 refine Jw tOk fe161.ok rfl ?_
 repeat' first|refine Jk ?_|refine Jt ?_|refine Jb ?_ ?_|refine Jo ?_|intro hb
 all_goals (refine ifq ?_;simp [QC] at *;omega)
theorem Zve {l:List Int} (hlen:l.length≤100000) (b:Bool):∀ H,CallOk E0 Tryz.prog 202 [slV b 1 (Zli l),.fn 161 []] H (.int .i64 (ixO l 0)) H:=by
 refine Jw tOk fe202.ok rfl ?_
 repeat' first|refine Jl ?_|refine Jo ?_|fail
 refine Wp.while (fun m tm H=>∃ (i:Nat) (base:TM),i+m=l.length∧ixO l 0=ixO (l.drop i) i∧tm=ovr base [(0,slV b 1 (Zli l)),(1,.fn 161 []),(7,.int .i64 (l.length:Int)),(8,.int .i64 (i:Int))]∧H=⟨[],0,[],0⟩)
  (fun m tm H hI=>?_) l.length _ _ ⟨0,_,by omega,by simp,Zi ⟨rfl,rfl,Zh (by rw [ZkG]),rfl,trivial⟩,rfl⟩
 obtain ⟨i,base,hi,hgo,rfl,rfl⟩:=hI
 rw [hgo]
 by_cases hlt:i<l.length
 · obtain ⟨a, ha⟩ : ∃ a, l[i]? = some a := ⟨l[i], by simp⟩
   have hj:=ZkN ha
   have hc:=ZuR a
   rw [Zkc ha]
   cases hd:QC a with
   | true =>
     rw [hd] at hc
     repeat' first|refine Jc (hc _) ?_|refine Jx ?_|refine Jz ?_ ?_|refine Jo ?_|intro hb
     · rfl
     · exfalso;simp at hb;omega
   | false =>
     rw [hd] at hc
     repeat' first|refine Jc (hc _) ?_|refine Jx ?_|refine Jz ?_ ?_|refine Jo ?_|intro hb
     · exact LoopI.go (m-1) (by omega) ⟨i+1,_,by omega,rfl,Zi ⟨rfl,rfl,rfl,Zh (Ze (n:=i+1) (by omega)),trivial⟩,rfl⟩
     · exfalso;simp at hb;omega
 · have e : i = l.length := by omega
   subst e
   repeat' first|refine Jz ?_ ?_|refine Jo ?_|intro hb
   · exfalso;simp at hb
   · rw [List.drop_length];rfl
theorem ZuM {l:List Int} (hlen:l.length≤100000) (b:Bool):∀ H,CallOk E0 Tryz.prog 163 [slV b 1 (Zli l),.fn 161 []] H (.bool (l.any QC)) H:=by
 have hc:=Zve hlen b
 rw [← ZmO l 0]
 generalize ixO l 0=x at hc
 refine Jw tOk fe163.ok rfl ?_
 repeat' first|refine Jc (hc _) ?_|refine Jt ?_|refine Jb ?_ ?_|refine Jo ?_|intro hb
 all_goals (refine ifq ?_;simp at hb;simp [hb])
theorem Zn7 (t:Tm) (nm:Bs) (n:Nat):∀ H,CallOk E0 Tryz.prog 105 [.agg t.cells,.str nm,.int .i64 (n:Int)] H (.bool (t.isB nm n)) H:=by
 obtain ⟨k,m,s,b,kids⟩:=t
 refine Jw tOk fe105.ok rfl ?_ (by simp [ZC,frzG,Tm.cells,Vg,frz1])
 repeat' first|refine Jk ?_|refine Jl ?_|refine Jt ?_|refine Jb ?_ ?_|refine Jo ?_|intro hb
 all_goals (refine ifq ?_;show _=(decide (k=3)&&((m==nm)&&decide (kids.length=n))))
 all_goals first
  | (have h1:= ‹(k==3)=false›;simp at h1;simp [h1];done)
  | (rw [‹(m==nm)=false›];simp;done)
  | (have h1 := ‹(k == 3) = true›
     rw [‹(m==nm)=true›]
     rw [Zb] at hb
     simp at h1 hb
     have h3:kids.length=n:=by omega
     simp [h1,h3]
     done)
  | (rw [Zb] at hb
     simp at hb
     have h3:¬ kids.length=n:=by omega
     simp [h3]
     done)
theorem Zrz (x : Cred) (h1 : x.sub.length ≤ 100000) (hk : x.key.Ok) (hks : x.key.size ≤ 90000) (hp : ∀ s, s ∈ x.per → s.length ≤ 100000) (he : ∀ s, s ∈ x.exc → s.length ≤ 100000) (hpl : x.per.length ≤ 100000) (hel : x.exc.length ≤ 100000) :
  ∀ H,CallOk E0 Tryz.prog 117 [.agg x.cells] H (.int .i64 x.valid) H:=by
 obtain ⟨sub,key,iss,pn,per,en,exc,ser,fr,till⟩:=x
 simp only [] at h1 hk hks hp he hpl hel
 have c1:=ZsF h1
 have c2:=Zst hk hks
 have c3:=Zn7 key [112,107] 1
 have c4:=Zsn hp hpl pn
 have c5:=Zsn he hel en
 have c6:∀ H,CallOk E0 Tryz.prog 163 [.sl .full 1 [[.int .i64 ser],[.int .i64 fr],[.int .i64 till]],.fn 161 []] H (.bool ([ser,fr,till].any QC)) H:=fun H=>
  Yc (ZuM (l:=[ser,fr,till]) (by simp) true hNil) (by
   rw [show slV true 1 (Zli [ser,fr,till])= .sl .none 1 [[.int .i64 ser],[.int .i64 fr],[.int .i64 till]] from Zw _ _ _ _]
   rfl) rfl H
 simp only [Cred.valid]
 generalize ZK sub=d at c1
 generalize key.key=e at c2
 generalize key.isB [112,107] 1=i3 at c3
 generalize Xi per=w1 at c4
 generalize Xi exc=w2 at c5
 generalize [ser,fr,till].any QC=o at c6
 obtain ⟨k,nm,s,b,kids⟩:=key
 simp only [Tm.cells] at c2 c3
 simp only [Cred.cells,Tm.cells,List.cons_append,List.nil_append]
 have hco:[slV pn 1 (Y8 per),slV en 1 (Y8 exc)].all Z3=true:=by simp only [List.all_cons,List.all_nil,Yf,Bool.and_self]
 refine Jw tOk fe117.ok rfl ?_
 repeat' first|refine Jk ?_|(apply qCl;rfl;rfl;rfl;rfl;first|exact c1 _|exact c2 _|exact c3 _|exact c4 _|exact c5 _|exact c6 _)|refine Js ?_|refine Jl ?_|refine Jt ?_|refine Jb ?_ ?_|refine Jo ?_|intro hb
 all_goals (refine Zh ?_;clear c1 c2 c3 c4 c5 c6 h1 hp he hk hks hco)
 all_goals
  have hwr:IntKind.i64.wrap ((per.length:Int)+(exc.length:Int))=(per.length:Int)+(exc.length:Int):=IntWalk.i64_in _ (by omega)
  simp only [XN,hwr,Bool.not_eq_true',Bool.not_eq_false',bne_iff_ne,bne_eq_false_iff_eq,decide_eq_true_eq,decide_eq_false_iff_not,ne_eq] at *
  subst_vars
  (repeat' split)<;>first|rfl|omega|(exfalso;simp_all;done)|(simp_all;done)|(exfalso;simp_all;omega)
open Go.Proofs
theorem ZsK (hs:s.length≤100000):∀ H,CallOk E0 Tryz.prog 118 [.str s] H (.bool (ZK s)) H:=by
 have hc:=ZsC hs
 unfold XP at hc
 unfold ZK
 cases h:(ZE s).all Yz with
 | false =>
   rw [h] at hc
   rw [Bool.and_false]
   have hc:∀ H,CallOk E0 Tryz.prog 164 [.str s] H (.tup [.nils,.bool false]) H:=hc
   refine Jw tOk fe118.ok rfl ?_
   repeat' first|refine Jc (hc _) ?_|refine Jt ?_|refine Jo ?_|fail
   all_goals rfl
 | true =>
   rw [h] at hc
   rw [Bool.and_true]
   generalize decide ((ZE s).length≤4)=B at hc
   have hc:∀ H,CallOk E0 Tryz.prog 164 [.str s] H (.tup [.sl .none 1 (ZJ (ZE s)),.bool B]) H:=hc
   refine Jw tOk fe118.ok rfl ?_
   repeat' first|refine Jc (hc _) ?_|refine Jt ?_|refine Jb ?_ ?_|refine Jo ?_|intro hb
   all_goals first|rfl|(rw [hb];rfl)|(cases B<;>first|rfl|cases hb)
theorem ZjX (h:l[i]? = some a):Xi (l.drop i)=(!ZK a||Xi (l.drop (i+1))):=by
 rw [ZM h];rfl
theorem Zsd (hl:∀ s,s∈l→s.length≤100000) (hlen:l.length≤100000) (b:Bool):∀ H,CallOk E0 Tryz.prog 121 [slV b 1 (Y8 l)] H (.bool (!Xi l)) H:=by
 refine Jw tOk fe121.ok rfl ?_
 repeat' first|refine Jt ?_|refine Jo ?_|fail
 refine Wp.while (fun m tm H=>∃ (i:Nat) (base:TM),i+m=l.length∧Xi l=Xi (l.drop i)∧tm=ovr base [(0,slV b 1 (Y8 l)),(3,.int .i64 (i:Int))]∧H=⟨[],0,[],0⟩)
  (fun m tm H hI=>?_) l.length _ _ ⟨0,_,by omega,by simp,Zi ⟨rfl,rfl,trivial⟩,rfl⟩
 obtain ⟨i,base,hi,hgo,rfl,rfl⟩:=hI
 rw [hgo]
 by_cases hlt:i<l.length
 · obtain ⟨a, ha⟩ : ∃ a, l[i]? = some a := ⟨l[i], by simp⟩
   have hj:=QQ ha
   have hc:=ZsK (hl a (List.mem_of_getElem? ha))
   rw [ZjX ha]
   generalize ZK a=d at hc
   repeat' first|refine Jc (hc _) ?_|refine Jl ?_|refine Jx ?_|refine Jt ?_|refine Jb ?_ ?_|refine Jo ?_|intro hb
   · have h1 : d = false := by simpa using hb
     rw [h1]
     rfl
   · have h1 : d = true := by simpa using hb
     rw [h1]
     exact LoopI.go (m-1) (by omega) ⟨i+1,_,by omega,rfl,Zi ⟨rfl,Zh (Ze (n:=i+1) (by omega)),trivial⟩,rfl⟩
   · exfalso;rw [XN] at hb;simp at hb;omega
 · have e : i = l.length := by omega
   subst e
   repeat' first|refine Jl ?_|refine Jt ?_|refine Jb ?_ ?_|refine Jo ?_|intro hb
   · exfalso;rw [XN] at hb;simp at hb
   · rw [List.drop_length];rfl
theorem ZoC {k:Int} {nm:List UInt8} {s:Int} {b:Bool} {kids:List Tm} (h:(Tm.mk k nm s b kids).key=0):isF k nm [112,107]=(Tm.mk k nm s b kids).isB [112,107] 1:=by
 show isF k nm [112,107]=(decide (k=3)&&((nm== [112,107])&&decide (kids.length=1)))
 by_cases c1:k=3
 · by_cases c2 : nm = [112, 107]
   · subst c1 c2
     have hth:(Tm.mk 3 [112,107] s b kids).th=0:=by
      unfold Tm.key at h
      by_cases d1:(Tm.mk 3 [112,107] s b kids).valid≠0
      · rw [if_pos d1] at h;exact absurd h d1
      · rw [if_neg d1] at h
        by_cases d2:(Tm.mk 3 [112,107] s b kids).th≠0
        · rw [if_pos d2] at h;exact absurd h d2
        · simpa using d2
     simp only [Tm.th] at hth
     have hsy:Qd [112,107]=⟨[112,107],1,1,1⟩:=rfl
     rw [hsy] at hth
     simp only [ne_eq,not_true_eq_false,if_false,show ¬ ((1:Int)=0) by omega] at hth
     have hl:kids.length=1:=by
      by_cases d3:(kids.length:Int)<1∨1<(kids.length:Int)
      · rw [if_pos d3] at hth;exact absurd hth (by omega)
      · omega
     rw [hl]
     rfl
   · have c3 : (nm == [112, 107]) = false := by simpa using c2
     simp only [isF,c3,Bool.false_and,Bool.and_false]
 · simp [isF,c1]
theorem c69 (x : Cred) (h1 : x.sub.length ≤ 100000) (hk : x.key.Ok) (hks : x.key.size ≤ 90000) (hp : ∀ s, s ∈ x.per → s.length ≤ 100000) (he : ∀ s, s ∈ x.exc → s.length ≤ 100000) (hpl : x.per.length ≤ 100000) (hel : x.exc.length ≤ 100000) :
  ∀ H,CallOk E0 Tryz.prog 69 [.agg x.cells] H (.int .i64 x.valid) H:=by
 obtain ⟨sub,key,iss,pn,per,en,exc,ser,fr,till⟩:=x
 simp only [] at h1 hk hks hp he hpl hel
 have c1:=ZsK h1
 have c2:=Zsk hk (by omega)
 have c4:=Zsd hp hpl pn
 have c5:=Zsd he hel en
 obtain ⟨V,hV⟩:∃ V,V=(Cred.mk sub key iss pn per en exc ser fr till).valid:=⟨_,rfl⟩
 rw [← hV]
 simp only [Cred.valid] at hV
 generalize ZK sub=d at c1 hV
 generalize Xi per=w1 at c4 hV
 generalize Xi exc=w2 at c5 hV
 obtain ⟨l,hl⟩:∃ l,l= [ser,fr,till]:=⟨_,rfl⟩
 rw [← hl] at hV
 obtain ⟨k,nm,s,b,kids⟩:=key
 have hkey:=ZoC (k:=k) (nm:=nm) (s:=s) (b:=b) (kids:=kids)
 have c3:=Zoo k nm s b kids [112,107]
 generalize (Tm.mk k nm s b kids).key=e at c2 hV hkey
 generalize (Tm.mk k nm s b kids).isB [112,107] 1=i3 at hV hkey
 generalize isF k nm [112,107]=i4 at c3 hkey
 simp only [Tm.cells] at c2 c3
 simp only [Cred.cells,Tm.cells,List.cons_append,List.nil_append]
 refine Jw tOk fe69.ok rfl ?_
 repeat' first|refine Jk ?_|(apply qCl;rfl;rfl;rfl;rfl;first|exact c1 _|exact c2 _|exact c3 _|exact c4 _|exact c5 _)|refine Js ?_|refine Jl ?_|refine Jt ?_|refine Jb ?_ ?_|refine Jo ?_|refine Jh ?_|(apply Wp.draw tOk follows;kernel_rfl)|intro hb
 all_goals
  have hwr:IntKind.i64.wrap ((per.length:Int)+(exc.length:Int))=(per.length:Int)+(exc.length:Int):=IntWalk.i64_in _ (by omega)
  clear c1 c2 c3 c4 c5 h1 hp he hk hks
 all_goals first
  | (refine Zh ?_
     simp only [XN,hwr,Bool.not_eq_true',Bool.not_eq_false',Bool.not_not,bne_iff_ne,bne_eq_false_iff_eq,decide_eq_true_eq,decide_eq_false_iff_not,ne_eq] at *
     subst hV
     (repeat' split)<;>first|rfl|omega|(exfalso;simp_all;done)|(simp_all;done)|(exfalso;simp_all;omega))
  | skip
 all_goals
  have hV:V=if l.any QC=true∨till<fr then 7 else 0:=by
   simp only [XN,hwr,Bool.not_eq_false',Bool.not_not,bne_eq_false_iff_eq,decide_eq_false_iff_not,ne_eq] at *
   rw [hV]
   (repeat' split)<;>first|rfl|omega|(exfalso;simp_all;done)|(simp_all;done)|(exfalso;simp_all;omega)
  subst hl
  clear hkey hwr
  rename_i hV0 _ _
  refine Wp.while (fun m tm H => ∃ (i : Nat) (base : TM), i + m = 3 ∧ [ser, fr, till].any QC = ([ser, fr, till].drop i).any QC ∧ tm = ovr base [(1, .ptr 0 11 0 0), (6, .sl .full 1 [[.int .i64 ser], [.int .i64 fr], [.int .i64 till]]), (7, .int .i64 (i : Int))] ∧
    H=⟨[.cells 11 [[.str sub,.int .i64 k,.str nm,.int .i64 s,slV b 4 (Za kids),.bool iss,slV pn 1 (Y8 per),slV en 1 (Y8 exc),.int .i64 ser,.int .i64 fr,.int .i64 till]]],0,[],0⟩)
   (fun m tm H hI=>?_) 3 _ _ ⟨0,_,by omega,rfl,Zi ⟨rfl,rfl,rfl,trivial⟩,rfl⟩
  obtain ⟨i,base,hi,hgo,rfl,rfl⟩:=hI
  rw [hgo] at hV
  clear hV0
  rcases (show i=0∨i=1∨i=2∨i=3 by omega) with rfl|rfl|rfl|rfl
  all_goals
   repeat' first|refine Jk ?_|refine Jt ?_|refine Jb ?_ ?_|refine Jo ?_|intro hb
  all_goals first
   | (exfalso;simp at hb;done)
   | (refine Zh ?_
      rw [hV,if_pos]
      clear hV hgo
      simp [QC] at hb ⊢
      omega)
   | (refine Zh ?_
      rw [hV,if_neg]
      clear hV hgo
      simp at hb ⊢
      omega)
   | (refine LoopI.go (m - 1) (by omega) ⟨1, _, by omega, ?_, Zi ⟨rfl, rfl, rfl, trivial⟩, rfl⟩
      rw [hgo]
      have h7:QC ser=false:=by
       have h8:= ‹decide (ser<0)=false›
       have h9:= ‹decide (9999<ser)=false›
       simp only [QC,h8,h9,Bool.or_self]
      show (QC ser||_)=_
      rw [h7]
      rfl)
   | (refine LoopI.go (m - 1) (by omega) ⟨2, _, by omega, ?_, Zi ⟨rfl, rfl, rfl, trivial⟩, rfl⟩
      rw [hgo]
      have h7:QC fr=false:=by
       have h8:= ‹decide (fr<0)=false›
       have h9:= ‹decide (9999<fr)=false›
       simp only [QC,h8,h9,Bool.or_self]
      show (QC fr||_)=_
      rw [h7]
      rfl)
   | (refine LoopI.go (m - 1) (by omega) ⟨3, _, by omega, ?_, Zi ⟨rfl, rfl, rfl, trivial⟩, rfl⟩
      rw [hgo]
      have h7:QC till=false:=by
       have h8:= ‹decide (till<0)=false›
       have h9:= ‹decide (9999<till)=false›
       simp only [QC,h8,h9,Bool.or_self]
      show (QC till||_)=_
      rw [h7]
      rfl)
   | trace_state
end Go.Vm.Seat
