/-
  Credentials: names that are none; what a credential must be.
-/
import Derived.Test.YtpgfeijkfmgnjaaGreatDoorProg
import Derived.Test.YtpgfeijkfmgnjaaGreatDoorVc
set_option maxHeartbeats 0
set_option maxRecDepth 100000
namespace Go.Proofs
open Go.Shelf
def Tryz.sortTm_ren:Go.Shelf.Ren:=⟨fun|6=>204|15=>247|14=>246|28=>277|29=>242|20=>269|21=>270|22=>271|23=>272|24=>273|25=>274|26=>275|27=>276|46=>282|47=>283|48=>284|49=>285|50=>286|57=>288|n=>n,fun|22=>24|24=>26|25=>82|3=>3|39=>180|0=>0|53=>212|55=>203|4=>4|46=>244|45=>243|50=>154|5=>5|9=>9|66=>256|70=>124|76=>262|77=>263|n=>n,fun|n=>n⟩
theorem Tryz.sortTm:Go.Proofs.SlLaysF0.n6 Tryz.prog Tryz.sortTm_ren:={
 mixed:=by kernel_rfl
 f6:=⟨Tryz.f204.name,by decide,Tryz.func204.trans (congrArg some (by kernel_rfl))⟩
 f14:=⟨Tryz.f246.name,by decide,Tryz.func246.trans (congrArg some (by kernel_rfl))⟩
 f15:=Tryz.func247.trans (congrArg some (by kernel_rfl))
 f20:=⟨Tryz.f269.name,by decide,Tryz.func269.trans (congrArg some (by kernel_rfl))⟩
 f21:=⟨Tryz.f270.name,by decide,Tryz.func270.trans (congrArg some (by kernel_rfl))⟩
 f22:=⟨Tryz.f271.name,by decide,Tryz.func271.trans (congrArg some (by kernel_rfl))⟩
 f23:=⟨Tryz.f272.name,by decide,Tryz.func272.trans (congrArg some (by kernel_rfl))⟩
 f24:=⟨Tryz.f273.name,by decide,Tryz.func273.trans (congrArg some (by kernel_rfl))⟩
 f25:=⟨Tryz.f274.name,by decide,Tryz.func274.trans (congrArg some (by kernel_rfl))⟩
 f26:=⟨Tryz.f275.name,by decide,Tryz.func275.trans (congrArg some (by kernel_rfl))⟩
 f27:=⟨Tryz.f276.name,by decide,Tryz.func276.trans (congrArg some (by kernel_rfl))⟩
 f28:=Tryz.func277.trans (congrArg some (by kernel_rfl))
 f29:=Tryz.func242.trans (congrArg some (by kernel_rfl))
 f46:=⟨Tryz.f282.name,by decide,Tryz.func282.trans (congrArg some (by kernel_rfl))⟩
 f47:=Tryz.func283.trans (congrArg some (by kernel_rfl))
 f48:=Tryz.func284.trans (congrArg some (by kernel_rfl))
 f49:=⟨Tryz.f285.name,by decide,Tryz.func285.trans (congrArg some (by kernel_rfl))⟩
 f50:=⟨Tryz.f286.name,by decide,Tryz.func286.trans (congrArg some (by kernel_rfl))⟩
 f57:=⟨Tryz.f288.name,by decide,Tryz.func288.trans (congrArg some (by kernel_rfl))⟩
 t0:=Tryz.underlying0
 a0:=Tryz.isAgg0
 z0:=Tryz.sizeOf0
 v0:=Tryz.zeroValue0
 t3:=Tryz.underlying3
 a3:=Tryz.isAgg3
 z3:=Tryz.sizeOf3
 v3:=Tryz.zeroValue3
 t4:=Tryz.underlying4
 a4:=Tryz.isAgg4
 z4:=Tryz.sizeOf4
 v4:=Tryz.zeroValue4
 t5:=Tryz.underlying5
 a5:=Tryz.isAgg5
 z5:=Tryz.sizeOf5
 v5:=Tryz.zeroValue5
 t9:=Tryz.underlying9
 a9:=Tryz.isAgg9
 z9:=Tryz.sizeOf9
 v9:=Tryz.zeroValue9
 t22:=Tryz.underlying24
 a22:=Tryz.isAgg24
 z22:=Tryz.sizeOf24
 v22:=Tryz.zeroValue24
 t25:=Tryz.underlying82
 a25:=Tryz.isAgg82
 z25:=Tryz.sizeOf82
 v25:=Tryz.zeroValue82
 t39:=Tryz.underlying180
 a39:=Tryz.isAgg180
 z39:=Tryz.sizeOf180
 v39:=Tryz.zeroValue180
 t45:=Tryz.underlying243
 a45:=Tryz.isAgg243
 z45:=Tryz.sizeOf243
 v45:=Tryz.zeroValue243
 t46:=Tryz.underlying244
 a46:=Tryz.isAgg244
 z46:=Tryz.sizeOf244
 v46:=Tryz.zeroValue244
 t50:=Tryz.underlying154
 a50:=Tryz.isAgg154
 z50:=Tryz.sizeOf154
 v50:=Tryz.zeroValue154
 t53:=Tryz.underlying212
 a53:=Tryz.isAgg212
 z53:=Tryz.sizeOf212
 v53:=Tryz.zeroValue212
 t55:=Tryz.underlying203
 a55:=Tryz.isAgg203
 z55:=Tryz.sizeOf203
 v55:=Tryz.zeroValue203
 t66:=Tryz.underlying256
 a66:=Tryz.isAgg256
 z66:=Tryz.sizeOf256
 v66:=Tryz.zeroValue256
 t70:=Tryz.underlying124
 a70:=Tryz.isAgg124
 z70:=Tryz.sizeOf124
 v70:=Tryz.zeroValue124
 t76:=Tryz.underlying262
 a76:=Tryz.isAgg262
 z76:=Tryz.sizeOf262
 v76:=Tryz.zeroValue262
 t77:=Tryz.underlying263
 a77:=Tryz.isAgg263
 z77:=Tryz.sizeOf263
 v77:=Tryz.zeroValue263}
end Go.Proofs
namespace Go.Vm.Seat
variable {bx:List Box} {L:List Tm} {t:Tm} {l:List Bs} {i:Nat}
open Go.Proofs
theorem Zl1 {id : Nat} (hid : bx[id]? = some (.cells 4 (Za L))) (hL : L ≠ []) (hok : ∀ x, x ∈ L → x.Ok ∧ x.size ≤ 100000) (hlen : L.length ≤ 100000) :
  CallOk E0 Tryz.prog 204 [.own id 4 0 L.length,.fn 75 []] ⟨bx,0,[],0⟩ (.tup []) ⟨bx.set id (.cells 4 (Za (Uk L))),0,[],0⟩:=
 Zl2 (E:=E0) (E1:=E1) (H:=⟨bx,0,[],0⟩) fe204.ok fe75.ok ⟨rfl,rfl⟩ rfl
  (fun enc h4 h1 cf hO blk off cap d w eg hcmp hH hblk hsz=>AnyQ.slices_SortFunc_eq Tryz.sortTm 4 Tryz.isAgg26 Tryz.sizeOf26 enc h4 h1 cf hO 75 #[] blk off cap d w eg hcmp hH hblk hsz)
  hL (N:=100000) (fun t ht=>(hok t ht).2) (fun a b ha hb=>d75 (hok a ha).1 (hok b hb).1 (by have:=(hok a ha).2;omega) (by have:=(hok b hb).2;omega) _) (by omega) hid (Nat.zero_le _)
def Zq6 (id:Nat) (r:PV) (H:Heap):Prop:=∃ (M:List Tm) (D:List (List PV)),r= .own id 4 0 M.length∧M≠ []∧nth H.bx id=some (.cells 4 (Za M++D))
theorem ZoU {id : Nat} (hid : bx[id]? = some (.cells 4 (Za L))) (hL : L ≠ []) (hok : ∀ x, x ∈ L → x.Ok ∧ x.size ≤ 100000) (hlen : L.length ≤ 100000) :
  ∃ r H',CallOk E0 Tryz.prog 157 [.own id 4 0 L.length] ⟨bx,0,[],0⟩ r H'∧Zq6 id r H':=by
 have hlt:=ZK hid
 have hs:=Zl1 hid hL hok hlen
 have hp:=Zg2 hL (N:=100000) fun t ht=>(hok t ht).2
 have hsl:(Uk L).length=L.length:=hp.length_eq
 have hsne:Uk L≠ []:=fun h=>by rw [h] at hsl;exact hL (List.length_eq_zero_iff.1 hsl.symm)
 have hsm:∀ x,x∈Uk L→x∈L:=fun x hx=>hp.mem_iff.1 hx
 obtain ⟨r1,H1,hc,M,D,rfl,rfl,hMl,hMne,hMm⟩:=Zhe (id:=id) (bx:=bx.set id (.cells 4 (Za (Uk L)))) (L:=Uk L) (by simp [hlt]) (fun x hx=>hok x (hsm x hx)) (by omega)
 rw [hsl] at hc
 rw [List.set_set] at hc
 have hMne:=hMne hsne
 refine Z4 (own:=fun _=>false) tOk fe157.ok ?_
 refine Wp.seq ?_
 repeat' first|refine Jc hs ?_|refine Jc hc ?_|refine Jo ?_|fail
 refine Wp.while (fun m tm H=>∃ (i:Nat) (base:TM),i+m=M.length∧tm=ovr base [(0,.own id 4 0 M.length),(9,.int .i64 (M.length:Int)),(10,.int .i64 (i:Int))]∧H=⟨bx.set id (.cells 4 (Za (clL (M.take i)++M.drop i)++D)),0,[],0⟩)
  (fun m tm H hI=>?_) M.length _ _ ⟨0,_,by omega,Zi ⟨rfl,rfl,rfl,trivial⟩,by simp [clL]⟩
 obtain ⟨i,base,hi,rfl,rfl⟩:=hI
 have hnb:nth (bx.set id (.cells 4 (Za (clL (M.take i)++M.drop i)++D))) id=some (.cells 4 (Za (clL (M.take i)++M.drop i)++D)):=by rw [ZA];simp [hlt]
 by_cases hilt:i<M.length
 · obtain ⟨x, hx⟩ : ∃ x, M[i]? = some x := ⟨M[i], by simp⟩
   have hxm:=hMm x (List.mem_of_getElem? hx)
   have hxo:=hok x (hsm x hxm)
   have hlen1:(clL (M.take i)).length=i:=by rw [We,List.length_take];omega
   have hat:(clL (M.take i)++M.drop i)[i]? = some x:=by
    rw [List.getElem?_append_right (by omega),hlen1,Nat.sub_self,List.getElem?_drop];simpa using hx
   have hnext:(clL (M.take i)++M.drop i).set i x.cl=clL (M.take (i+1))++M.drop (i+1):=by
    rw [ZcL hx,Z0 hx,List.set_append_right _ _ (by omega),hlen1,Nat.sub_self]
    simp
   have hcell:nth (Za (clL (M.take i)++M.drop i)++D) i=some x.cells:=by
    obtain ⟨k,nm,s,b,kz⟩:=x
    rw [ZA,List.getElem?_append_left (by rw [Zb];exact ZK hat)]
    exact Zn hat
   have hi1:=ZeB (id:=id) (ix:=0) (len:=M.length) hilt
   have hl1:YO E0 26 (.ptr id 4 (0+i) 0) ⟨bx.set id (.cells 4 (Za (clL (M.take i)++M.drop i)++D)),0,[],0⟩=some (.agg x.cells):=by
    rw [Nat.zero_add]
    exact ZaO rfl rfl hnb hcell (by obtain ⟨k,nm,s,b,kz⟩:=x;rfl)
   have hcl:=c88 hxo.1 hxo.2
   have hst:Heap.wr ⟨bx.set id (.cells 4 (Za (clL (M.take i)++M.drop i)++D)),0,[],0⟩ (.ptr id 4 (0+i) 0) x.cl.cells=some ⟨bx.set id (.cells 4 (Za (clL (M.take (i+1))++M.drop (i+1))++D)),0,[],0⟩:=by
    rw [Nat.zero_add,ZgG hnb hcell (by obtain ⟨k,nm,s,b,kz⟩:=x;simp [Tm.cells,Tm.cl]) (Nat.zero_le _),List.set_set, ← hnext, ← ZbN,List.set_append_left _ _ (by rw [Zb];exact ZK hat)]
    obtain ⟨k,nm,s,b,kz⟩:=x
    simp [Tm.cells,Tm.cl]
   obtain ⟨k,nm,s,b,kz⟩:=x
   simp only [Tm.cl,Tm.cells] at hst hl1 hcl
   repeat' first|refine Jc (hcl _) ?_|refine JJ ?_|(apply qLd;rfl;rfl;rfl;assumption;exact IsV.any _)|refine Jz ?_ ?_|refine Jo ?_|intro hb
   · exact LoopI.go (m-1) (by omega) ⟨i+1,_,by omega,Zi ⟨rfl,rfl,Zj (Zg (n:=i+1) (by omega)),trivial⟩,rfl⟩
   · exfalso;simp at hb;omega
 · have e : i = M.length := by omega
   subst e
   rw [List.take_length,List.drop_length,List.append_nil] at hnb
   rw [List.take_length,List.drop_length,List.append_nil]
   repeat' first|refine Jz ?_ ?_|refine Jo ?_|intro hb
   · exfalso;simp at hb
   · refine RetR.ret rfl ⟨clL M, D, by rw [We]; rfl, fun h => ?_, hnb⟩
     have:=We M
     rw [h] at this
     exact hMne (List.length_eq_zero_iff.1 this.symm)
theorem Znf:∀ H,CallOk E0 Tryz.prog 157 [.nils] H .nils H:=
 Xs (x:=⟨157,[.nils],.nils⟩) tOk follows fOk zOk (fuel:=100) (k:=60) (by kernel_rfl)
theorem ZnL {H:Heap} {id:Nat} {M:List Tm} {D:List (List PV)} (hM:M≠ []) (hH:nth H.bx id=some (.cells 4 (Za M++D))):frz3 0 H (.own id 4 0 M.length)=some (slV true 4 (Za M)):=by
 have e:slV true 4 (Za M)= .sl .none 4 (Za M):=by
  cases M with
  | nil=>exact absurd rfl hM
  | cons a r =>
    obtain ⟨k,nm,s,b,kz⟩:=a
    exact Zw _ _ _ _
 rw [e]
 have h1:((Za M++D).drop 0).take M.length=Za M:=by rw [List.drop_zero, ← Zb M,List.take_left]
 show frzC 0 H (.own id 4 0 M.length)=_
 simp only [frzC,Nat.not_lt_zero,if_false,hH,true_and,Nat.zero_add,List.length_append,Zb,Nat.le_add_right,if_true,h1,Wu]
theorem Zs0 (ht:t.Ok) (hsz:t.size≤90000) (kk:Int):∃ M:List Tm,(M= []↔Uc kk t.all= [])∧∀ H,CallOk E0 Tryz.prog 111 [.agg t.cells,.int .i64 kk] H (slV true 4 (Za M)) H:=by
 have hao:=ZiC ht
 have hal:=t.all_len
 have hkl:=Q6 kk t.all
 obtain ⟨H1,hc,v',rest',rfl,hG,hF⟩:=Zm1 kk (.cells 4 [t.cells]) ht (rest:=[]) (v:= .nils) (L:=[]) .nil (by simp;omega)
 rw [List.nil_append] at hG
 have hkm:∀ x,x∈Uc kk t.all→x.Ok∧x.size≤100000:=fun x hx=>by
  have:=hao x (List.mem_filter.1 hx).1
  exact ⟨this.1,by omega⟩
 generalize Uc kk t.all=L at hG hkl hkm ⊢
 unfold Wh at hc
 obtain ⟨k,nm,s,b,kz⟩:=t
 simp only [Tm.cells] at hc
 cases hG with
 | nil =>
   refine ⟨[],by simp,?_⟩
   rw [show slV true 4 (Za [])= .nils from Zq 4]
   have ho:=Znf ⟨.cells 4 [[.int .i64 k,.str nm,.int .i64 s,slV b 4 (Za kz)]]:: .cells 1 [[.int .i64 kk]]:: .cells 1 [[.nils]]::rest',0,[],0⟩
   refine Jw tOk fe111.ok rfl ?_ (by simp [ZJ,frzG,Tm.cells,VF,frz1])
   repeat' first|refine Jc hc ?_|refine Jc ho ?_|refine Jo ?_|fail
   all_goals rfl
 | own o L hob hL =>
   obtain ⟨r,H',ho,M,D,rfl,hMne,hnb⟩:=ZoU (id:=o+3) (bx:= .cells 4 [[.int .i64 k,.str nm,.int .i64 s,slV b 4 (Za kz)]]:: .cells 1 [[.int .i64 kk]]:: .cells 1 [[.own (o+3) 4 0 L.length]]::rest') (L:=L) (by simpa using hob) hL hkm (by omega)
   refine ⟨M,by simp [hMne,hL],?_⟩
   have hfin:=ZnL hMne hnb
   obtain ⟨bx',ro',lv',nt'⟩:=H'
   refine Jw tOk fe111.ok (Y5 _ _ _ _ _) ?_ (by simp [ZJ,frzG,Tm.cells,VF,frz1])
   repeat' first|refine Jc hc ?_|refine Jc ho ?_|refine Jo ?_|fail
   exact hfin
theorem c73 (ht:t.Ok) (hsz:t.size≤90000):∃ M:List Tm,(M= []↔Uc 1 t.all= [])∧∀ H,CallOk E0 Tryz.prog 73 [.agg t.cells] H (slV true 4 (Za M)) H:=by
 obtain ⟨M,hM,hc⟩:=Zs0 ht hsz 1
 refine ⟨M,hM,?_⟩
 obtain ⟨k,nm,s,tb,kz⟩:=t
 refine Jw tOk fe73.ok (Y5 _ _ _ _ _) ?_
 repeat' first|refine Jc (hc _) ?_|refine Jo ?_|fail
 exact Y5 _ _ _ _ _
theorem ZrZ (ht:t.Ok) (hsz:t.size≤90000):∀ H,CallOk E0 Tryz.prog 102 [.agg t.cells] H (.int .i64 t.key) H:=by
 have h1:=Zsm ht (by omega)
 obtain ⟨M,hM,h2⟩:=c73 ht hsz
 have h3:=c72 ht (by omega)
 have hg:t.ground=decide (M.length=0):=by
  unfold Tm.ground
  cases h:Uc 1 t.all with
  | nil=>rw [hM.2 h];rfl
  | cons a r =>
    have h2:M≠ []:=fun e=>by rw [hM.1 e] at h;cases h
    simp [h2]
 unfold Tm.key
 rw [hg]
 generalize t.valid=e1 at h1 h3 ⊢
 generalize t.th=e2 at h1 h3 ⊢
 generalize t.fre=f at h3 ⊢
 clear hg hM
 obtain ⟨k,nm,s,tb,kz⟩:=t
 refine Jw tOk fe102.ok rfl ?_
 repeat' first|(apply qCl;rfl;rfl;rfl;rfl;first|exact h1 _|exact h2 _|exact h3 _)|refine Jl ?_|refine Jt ?_|refine Jb ?_ ?_|refine Jo ?_|intro hb
 all_goals (refine Zj ?_;clear h1 h2 h3)
 · have h9 : (if e1 ≠ 0 then e1 else e2) ≠ 0 := by simpa using hb
   by_cases c1:e1≠0
   · rw [if_pos c1,if_pos c1]
   · rw [if_neg c1] at h9
     rw [if_neg c1,if_neg c1,if_pos h9]
 all_goals
  have h9:(if e1≠0 then e1 else e2)=0:=by simpa using ‹((if e1≠0 then e1 else e2) != 0)=false›
  have c1:¬ e1≠0:=fun c=>by rw [if_pos c] at h9;exact c h9
  rw [if_neg c1] at h9
  rw [if_neg c1,if_neg (by omega)]
 · rw [if_pos]
   rw [Zb] at hb
   have:=of_decide_eq_true hb
   exact decide_eq_false (by omega)
 all_goals
  rw [if_neg (by
   have h8:= ‹decide (0<((Za M).length:Int))=false›
   rw [Zb] at h8
   have:=of_decide_eq_false h8
   rw [decide_eq_true (show M.length=0 by omega)]
   simp)]
 · rw [if_pos]
   cases f
   · rfl
   · exfalso;simp at hb;omega
 · rw [if_neg]
   intro hf
   subst hf
   simp at hb
def ixW:List Bs→Nat→Int
 | [],_=> -1
 |a::r,i=>if ZB a=false then (i:Int) else ixW r (i+1)
theorem Zjp:∀ (l:List Bs) (i:Nat),0≤ixW l i↔Xi l=true
 | [],i=>by simp [ixW,Xi]
 | a :: r, i => by
   have ih:=Zjp r (i+1)
   simp only [ixW]
   by_cases h:ZB a=false
   · rw [if_pos h];simp [Xi,h]
   · rw [if_neg h, ih]
     have h2:ZB a=true:=by simpa using h
     simp [Xi,h2]
theorem ZjK (l:List Bs) (i:Nat):decide (0≤ixW l i)=Xi l:=by
 rw [Bool.eq_iff_iff,decide_eq_true_iff];exact Zjp l i
theorem Zkv {a:Bs} (h:l[i]? = some a):ixW (l.drop i) i=if ZB a=false then (i:Int) else ixW (l.drop (i+1)) (i+1):=by
 rw [Z0 h];rfl
theorem ZsV {s:Bs} (hs:s.length≤100000):∀ H,CallOk E0 Tryz.prog 160 [.str s] H (.bool (!ZB s)) H:=by
 have hc:=c53 hs
 generalize ZB s=d at hc
 refine Jw tOk fe160.ok rfl ?_
 repeat' first|refine Jc (hc _) ?_|refine Jt ?_|refine Jb ?_ ?_|refine Jo ?_|intro hb
 all_goals (refine ifq ?_;simp at hb;simp [hb])
theorem ZtB (hl:∀ s,s∈l→s.length≤100000) (hlen:l.length≤100000) (b:Bool):∀ H,CallOk E0 Tryz.prog 208 [slV b 1 (Y2 l),.fn 160 []] H (.int .i64 (ixW l 0)) H:=by
 refine Jw tOk fe208.ok rfl ?_
 repeat' first|refine Jl ?_|refine Jo ?_|fail
 refine Wp.while (fun m tm H=>∃ (i:Nat) (base:TM),i+m=l.length∧ixW l 0=ixW (l.drop i) i∧tm=ovr base [(0,slV b 1 (Y2 l)),(1,.fn 160 []),(7,.int .i64 (l.length:Int)),(8,.int .i64 (i:Int))]∧H=⟨[],0,[],0⟩)
  (fun m tm H hI=>?_) l.length _ _ ⟨0,_,by omega,by simp,Zi ⟨rfl,rfl,Zj (by rw [XP]),rfl,trivial⟩,rfl⟩
 obtain ⟨i,base,hi,hgo,rfl,rfl⟩:=hI
 rw [hgo]
 by_cases hlt:i<l.length
 · obtain ⟨a, ha⟩ : ∃ a, l[i]? = some a := ⟨l[i], by simp⟩
   have hj:=Q4 ha
   have hc:=ZsV (hl a (List.mem_of_getElem? ha))
   rw [Zkv ha]
   cases hd:ZB a with
   | false =>
     rw [hd] at hc
     have hc:∀ H,CallOk E0 Tryz.prog 160 [.str a] H (.bool true) H:=hc
     repeat' first|refine Jc (hc _) ?_|refine Jx ?_|refine Jz ?_ ?_|refine Jo ?_|intro hb
     · rfl
     · exfalso;simp at hb;omega
   | true =>
     rw [hd] at hc
     have hc:∀ H,CallOk E0 Tryz.prog 160 [.str a] H (.bool false) H:=hc
     repeat' first|refine Jc (hc _) ?_|refine Jx ?_|refine Jz ?_ ?_|refine Jo ?_|intro hb
     · exact LoopI.go (m-1) (by omega) ⟨i+1,_,by omega,rfl,Zi ⟨rfl,rfl,rfl,Zj (Zg (n:=i+1) (by omega)),trivial⟩,rfl⟩
     · exfalso;simp at hb;omega
 · have e : i = l.length := by omega
   subst e
   repeat' first|refine Jz ?_ ?_|refine Jo ?_|intro hb
   · exfalso;simp at hb
   · rw [List.drop_length];rfl
theorem Zth (hl:∀ s,s∈l→s.length≤100000) (hlen:l.length≤100000) (b:Bool):∀ H,CallOk E0 Tryz.prog 159 [slV b 1 (Y2 l),.fn 160 []] H (.bool (Xi l)) H:=by
 have hc:=ZtB hl hlen b
 rw [← ZjK l 0]
 generalize ixW l 0=x at hc
 refine Jw tOk fe159.ok rfl ?_
 repeat' first|refine Jc (hc _) ?_|refine Jt ?_|refine Jb ?_ ?_|refine Jo ?_|intro hb
 all_goals (refine ifq ?_;simp at hb;simp [hb])
theorem ZsD (hl:∀ s,s∈l→s.length≤100000) (hlen:l.length≤100000) (b:Bool):∀ H,CallOk E0 Tryz.prog 118 [slV b 1 (Y2 l)] H (.bool (Xi l)) H:=by
 have hc:=Zth hl hlen b
 generalize Xi l=w at hc
 refine Jw tOk fe118.ok rfl ?_
 repeat' first|refine Jc (hc _) ?_|refine Jt ?_|refine Jb ?_ ?_|refine Jo ?_|intro hb
 all_goals (cases w<;>first|rfl|cases hb)
def ixO:List Int→Nat→Int
 | [],_=> -1
 |a::r,i=>if WB a=true then (i:Int) else ixO r (i+1)
theorem ZiR:∀ (l:List Int) (i:Nat),0≤ixO l i↔l.any WB=true
 | [],i=>by simp [ixO]
 | a :: r, i => by
   have ih:=ZiR r (i+1)
   simp only [ixO]
   by_cases h:WB a=true
   · rw [if_pos h];simp [h]
   · rw [if_neg h,ih];simp [h]
theorem Zml (l:List Int) (i:Nat):decide (0≤ixO l i)=l.any WB:=by
 rw [Bool.eq_iff_iff,decide_eq_true_iff];exact ZiR l i
theorem ZkC {l:List Int} {a:Int} (h:l[i]? = some a):ixO (l.drop i) i=if WB a=true then (i:Int) else ixO (l.drop (i+1)) (i+1):=by
 rw [Z0 h];rfl
theorem Zs1 (n:Int):∀ H,CallOk E0 Tryz.prog 117 [.int .i64 n] H (.bool (WB n)) H:=by
 refine Jw tOk fe117.ok rfl ?_
 repeat' first|refine Jk ?_|refine Jt ?_|refine Jb ?_ ?_|refine Jo ?_|intro hb
 all_goals (refine ifq ?_;simp [WB] at *;omega)
theorem Ztd {l:List Int} (hlen:l.length≤100000) (b:Bool):∀ H,CallOk E0 Tryz.prog 161 [slV b 1 (Zly l),.fn 117 []] H (.int .i64 (ixO l 0)) H:=by
 refine Jw tOk fe161.ok rfl ?_
 repeat' first|refine Jl ?_|refine Jo ?_|fail
 refine Wp.while (fun m tm H=>∃ (i:Nat) (base:TM),i+m=l.length∧ixO l 0=ixO (l.drop i) i∧tm=ovr base [(0,slV b 1 (Zly l)),(1,.fn 117 []),(7,.int .i64 (l.length:Int)),(8,.int .i64 (i:Int))]∧H=⟨[],0,[],0⟩)
  (fun m tm H hI=>?_) l.length _ _ ⟨0,_,by omega,by simp,Zi ⟨rfl,rfl,Zj (by rw [Zkc]),rfl,trivial⟩,rfl⟩
 obtain ⟨i,base,hi,hgo,rfl,rfl⟩:=hI
 rw [hgo]
 by_cases hlt:i<l.length
 · obtain ⟨a, ha⟩ : ∃ a, l[i]? = some a := ⟨l[i], by simp⟩
   have hj:=Zkm ha
   have hc:=Zs1 a
   rw [ZkC ha]
   cases hd:WB a with
   | true =>
     rw [hd] at hc
     repeat' first|refine Jc (hc _) ?_|refine Jx ?_|refine Jz ?_ ?_|refine Jo ?_|intro hb
     · rfl
     · exfalso;simp at hb;omega
   | false =>
     rw [hd] at hc
     repeat' first|refine Jc (hc _) ?_|refine Jx ?_|refine Jz ?_ ?_|refine Jo ?_|intro hb
     · exact LoopI.go (m-1) (by omega) ⟨i+1,_,by omega,rfl,Zi ⟨rfl,rfl,rfl,Zj (Zg (n:=i+1) (by omega)),trivial⟩,rfl⟩
     · exfalso;simp at hb;omega
 · have e : i = l.length := by omega
   subst e
   repeat' first|refine Jz ?_ ?_|refine Jo ?_|intro hb
   · exfalso;simp at hb
   · rw [List.drop_length];rfl
theorem Zu8 {l:List Int} (hlen:l.length≤100000) (b:Bool):∀ H,CallOk E0 Tryz.prog 119 [slV b 1 (Zly l),.fn 117 []] H (.bool (l.any WB)) H:=by
 have hc:=Ztd hlen b
 rw [← Zml l 0]
 generalize ixO l 0=x at hc
 refine Jw tOk fe119.ok rfl ?_
 repeat' first|refine Jc (hc _) ?_|refine Jt ?_|refine Jb ?_ ?_|refine Jo ?_|intro hb
 all_goals (refine ifq ?_;simp at hb;simp [hb])
theorem c55 (t:Tm) (nm:Bs) (n:Nat):∀ H,CallOk E0 Tryz.prog 55 [.agg t.cells,.str nm,.int .i64 (n:Int)] H (.bool (t.isB nm n)) H:=by
 obtain ⟨k,m,s,b,kz⟩:=t
 refine Jw tOk fe55.ok rfl ?_ (by simp [ZJ,frzG,Tm.cells,VF,frz1])
 repeat' first|refine Jk ?_|refine Jl ?_|refine Jt ?_|refine Jb ?_ ?_|refine Jo ?_|intro hb
 all_goals (refine ifq ?_;show _=(decide (k=3)&&((m==nm)&&decide (kz.length=n))))
 all_goals first
  | (have h1:= ‹(k==3)=false›;simp at h1;simp [h1];done)
  | (rw [‹(m==nm)=false›];simp;done)
  | (have h1 := ‹(k == 3) = true›
     rw [‹(m==nm)=true›]
     rw [Zb] at hb
     simp at h1 hb
     have h3:kz.length=n:=by omega
     simp [h1,h3]
     done)
  | (rw [Zb] at hb
     simp at hb
     have h3:¬ kz.length=n:=by omega
     simp [h3]
     done)
theorem c82 (x : Cred) (h1 : x.sub.length ≤ 100000) (hk : x.key.Ok) (hks : x.key.size ≤ 90000) (hp : ∀ s, s ∈ x.per → s.length ≤ 100000) (he : ∀ s, s ∈ x.exc → s.length ≤ 100000) (hpl : x.per.length ≤ 100000) (hel : x.exc.length ≤ 100000) :
  ∀ H,CallOk E0 Tryz.prog 82 [.agg x.cells] H (.int .i64 x.valid) H:=by
 obtain ⟨sub,key,iss,pn,per,en,exc,ser,fr,till⟩:=x
 simp only [] at h1 hk hks hp he hpl hel
 have c1:=c53 h1
 have c2:=ZrZ hk hks
 have c3:=c55 key [112,107] 1
 have c4:=ZsD hp hpl pn
 have c5:=ZsD he hel en
 have c6:∀ H,CallOk E0 Tryz.prog 119 [.sl .full 1 [[.int .i64 ser],[.int .i64 fr],[.int .i64 till]],.fn 117 []] H (.bool ([ser,fr,till].any WB)) H:=fun H=>
  Yc (Zu8 (l:=[ser,fr,till]) (by simp) true hNil) (by
   rw [show slV true 1 (Zly [ser,fr,till])= .sl .none 1 [[.int .i64 ser],[.int .i64 fr],[.int .i64 till]] from Zw _ _ _ _]
   rfl) rfl H
 simp only [Cred.valid]
 generalize ZB sub=d at c1
 generalize key.key=e at c2
 generalize key.isB [112,107] 1=i3 at c3
 generalize Xi per=w1 at c4
 generalize Xi exc=w2 at c5
 generalize [ser,fr,till].any WB=o at c6
 obtain ⟨k,nm,s,b,kz⟩:=key
 simp only [Tm.cells] at c2 c3
 simp only [Cred.cells,Tm.cells,List.cons_append,List.nil_append]
 have hco:[slV pn 1 (Y2 per),slV en 1 (Y2 exc)].all Z7=true:=by simp only [List.all_cons,List.all_nil,Ya,Bool.and_self]
 refine Jw tOk fe82.ok rfl ?_
 repeat' first|refine Jk ?_|(apply qCl;rfl;rfl;rfl;rfl;first|exact c1 _|exact c2 _|exact c3 _|exact c4 _|exact c5 _|exact c6 _)|refine Js ?_|refine Jl ?_|refine Jt ?_|refine Jb ?_ ?_|refine Jo ?_|intro hb
 all_goals (refine Zj ?_;clear c1 c2 c3 c4 c5 c6 h1 hp he hk hks hco)
 all_goals
  have hwr:IntKind.i64.wrap ((per.length:Int)+(exc.length:Int))=(per.length:Int)+(exc.length:Int):=IntWalk.i64_in _ (by omega)
  simp only [XP,hwr,Bool.not_eq_true',Bool.not_eq_false',bne_iff_ne,bne_eq_false_iff_eq,decide_eq_true_eq,decide_eq_false_iff_not,ne_eq] at *
  subst_vars
  (repeat' split)<;>first|rfl|omega|(exfalso;simp_all;done)|(simp_all;done)|(exfalso;simp_all;omega)
