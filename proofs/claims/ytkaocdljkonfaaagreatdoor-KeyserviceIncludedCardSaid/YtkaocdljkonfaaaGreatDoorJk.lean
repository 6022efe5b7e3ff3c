/-
  The services behind changes, as the document makes them. A service behind changes is valid, and what a reader accepts for the head of its log stands t
-/
import Derived.Test.YtkaocdljkonfaaaGreatDoorIb
import Derived.Test.YtkaocdljkonfaaaGreatDoorLd55
set_option maxHeartbeats 64000000
set_option maxRecDepth 100000
namespace Go.Vm.Seat
variable {i n:Nat} {s:Sv} {name:Bs} {a b key:Tm}
open Go.Proofs
def ZbP:Bs:=[108,111,103]
structure Mad (n:Nat) (s:Sv):Prop where
 ok:SvOk s
 key:s.key=skT ZbP
 len:s.log.length≤n
 sz:∀ t,t∈s.log→t.size≤150
 rk:∀ t,t∈s.log→(Zf t).1.key.size≤10
theorem Zf4 {name:Bs}:∀ {l:List Tm},(∀ t,t∈l→(Zf t).1.key.size≤10)→(Zx name l).1.size≤10
 | [],_=>by simp [Zx,Tm.zero,Tm.size,Zz]
 | t :: r, h => by
   simp only [Zx]
   split
   · exact h t (by simp)
   · exact Zf4 fun u hu=>h u (by simp [hu])
theorem Mad.ks (h:Mad n s):s.key.size≤50:=by
 rw [h.key]
 have:=(Ua (name:=ZbP) (by decide)).2
 omega
theorem Mad.look (h:Mad n s) (name:Bs):(Zx name s.log.reverse).1.Ok∧(Zx name s.log.reverse).1.size≤10:=
 ⟨(VK (name:=name) (S:=900) (by omega) (l:=s.log.reverse) fun u hu=>⟨h.ok.l u (List.mem_reverse.1 hu),h.ok.ls u (List.mem_reverse.1 hu)⟩).1,Zf4 fun u hu=>h.rk u (List.mem_reverse.1 hu)⟩
theorem Mad.mono {m:Nat} (h:Mad n s) (hm:n≤m):Mad m s:=⟨h.ok,h.key,Nat.le_trans h.len hm,h.sz,h.rk⟩
theorem Zct (h:Mad n s) (hn:n≤31) {i t:Int} (hk:key.Ok) (hks:key.size≤10) (he:(Zbj s (Zj name key i t)).2=0):Mad (n+1) (Zbj s (Zj name key i t)).1:=by
 unfold Zbj at he ⊢
 split at he; · cases he
 split at he; · cases he
 rename_i hz1 h2
 rw [if_neg hz1,if_neg h2]
 have hz1:((Zj name key i t).issue s.key).2=0:=Classical.not_not.1 hz1
 have hr:=ZbO hz1
 have hio:=Yv (x:=Zj name key i t) (key:=s.key) hk h.ok.k
 have hz:((Zj name key i t).issue s.key).1.size≤150:=by
  have:=hio.2
  have h3:=(Ua (name:=ZbP) (by decide)).2
  rw [h.key] at this ⊢
  simp only [Zj] at this ⊢
  omega
 refine ⟨ZeG h.ok (by have:=h.len;omega) hio.1 (by omega),h.key,?_,?_,?_⟩
 · show (s.log ++ [_]).length ≤ n + 1
   have:=h.len
   simp only [List.length_append,List.length_singleton]
   omega
 · intro u hu
   have hu:u∈s.log++ [((Zj name key i t).issue s.key).1]:=hu
   simp only [List.mem_append,List.mem_singleton] at hu
   rcases hu with hu|rfl
   · exact h.sz u hu
   · exact hz
 · intro u hu
   have hu:u∈s.log++ [((Zj name key i t).issue s.key).1]:=hu
   simp only [List.mem_append,List.mem_singleton] at hu
   rcases hu with hu|rfl
   · exact h.rk u hu
   · rw [hr]
     exact hks
def Zrm:List Bs:=[[111,114,103],[97,46,111,114,103],[98,46,97,46,111,114,103],[110,101,116],[99,46,110,101,116],[97,46,98,46,97,46,111,114,103]]
def ZtX:List Bs:=[[114],[97],[98],[99]]
def Qe (n:Nat):Bs:=(Zrm[n % 6]?).getD []
def Zon (n:Nat):Bs:=(ZtX[n % 4]?).getD []
def Zlh (n:Nat):Tm:=pkT (skT (Zon n))
theorem Zhv (n:Nat):(Qe n).length≤100:=by
 unfold Qe
 have h:n % 6<6:=Nat.mod_lt _ (by omega)
 generalize n % 6=m at h
 match m,h with
 |0,_|1,_|2,_|3,_|4,_|5,_=>decide
theorem Zka (n:Nat):(Zon n).length≤100:=by
 unfold Zon
 have h:n % 4<4:=Nat.mod_lt _ (by omega)
 generalize n % 4=m at h
 match m,h with
 |0,_|1,_|2,_|3,_=>decide
theorem Zhl (n:Nat):(Zlh n).Ok∧(Zlh n).size≤10:=by
 have h:=Ua (name:=Zon n) (by have:=Zka n;omega)
 refine ⟨ok1 (by decide) h.1,?_⟩
 have:(Zlh n).size=(skT (Zon n)).size+1:=QU
 omega
theorem ZmR:((List.range 256).all fun n=>Qs E0 100 60 ⟨92,[.int .u8 (n:Int)],.str (Qe n)⟩)=true:=by kernel_rfl
theorem c92 (h:n<256):∀ H,CallOk E0 Tryz.prog 92 [.int .u8 (n:Int)] H (.str (Qe n)) H:=
 Xn tOk follows fOk zOk (List.all_eq_true.1 ZmR n (List.mem_range.2 h))
theorem ZoV:((List.range 256).all fun n=>Qs E0 100 60 ⟨93,[.int .u8 (n:Int)],.agg (Zlh n).cells⟩)=true:=by kernel_rfl
theorem c93 (h:n<256):∀ H,CallOk E0 Tryz.prog 93 [.int .u8 (n:Int)] H (.agg (Zlh n).cells) H:=
 Xn tOk follows fOk zOk (List.all_eq_true.1 ZoV n (List.mem_range.2 h))
structure Opp where
 kind:Nat
 name:Nat
 key:Nat
variable {o:Opp} {l:List Opp}
def Opp.cells (o:Opp):List PV:=[.int .u8 (o.kind:Int),.int .u8 (o.name:Int),.int .u8 (o.key:Int)]
def Opp.ok (o:Opp):Prop:=o.kind<256∧o.name<256∧o.key<256
def doF (s:Sv) (o:Opp):Sv×Int:=if o.kind % 3=0 then Zfi s (Qe o.name) (Zlh o.key) else if o.kind % 3=1 then Zgd s (Qe o.name) (Zlh o.key) else Zga s (Qe o.name)
theorem Zm4 (h:Mad n s) (hn:n≤31) (o:Opp) (he:(doF s o).2=0):Mad (n+1) (doF s o).1:=by
 have hp:=Zhl o.key
 have hl:=h.look (Qe o.name)
 unfold doF at he ⊢
 split at he
 · rename_i hz1
   rw [if_pos hz1]
   unfold Zfi at he ⊢
   split at he; · rename_i h2;exact absurd he h2
   split at he; · rename_i h2;exact absurd he h2
   split at he; · cases he
   rename_i h2 h3 h4
   rw [if_neg h2,if_neg h3,if_neg h4]
   exact Zct h hn hp.1 hp.2 he
 · rename_i hz1
   rw [if_neg hz1]
   split at he
   · rename_i h2
     rw [if_pos h2]
     unfold Zgd at he ⊢
     split at he; · rename_i h2;exact absurd he h2
     split at he; · rename_i h2;exact absurd he h2
     split at he; · cases he
     split at he; · cases he
     rename_i h2 h3 h4 h5
     rw [if_neg h2,if_neg h3,if_neg h4,if_neg h5]
     exact Zct h hn hp.1 hp.2 he
   · rename_i h2
     rw [if_neg h2]
     unfold Zga at he ⊢
     split at he; · rename_i h2;exact absurd he h2
     split at he; · cases he
     rename_i h2 h3
     rw [if_neg h2,if_neg h3]
     exact Zct h hn hl.1 hl.2 he
theorem ZoJ (k m:Nat) (hm:m≠0):ZV E0 .rem 5 (.int .u8 (k:Int)) (.int .u8 (m:Int))=some (.int .u8 ((k % m:Nat):Int)):=by
 show (if (m:Int)=0 then none else some (PV.int .u8 ((k:Int).tmod (m:Int))))=_
 rw [if_neg (by omega)]
 rfl
theorem Zo0 (a b:Nat):ZV E0 .eql 5 (.int .u8 (a:Int)) (.int .u8 (b:Int))=some (.bool (decide (a=b))):=by
 show some (PV.bool ((a:Int)==(b:Int)))=_
 have e:((a:Int)==(b:Int))=decide (a=b):=by
  rw [Bool.eq_iff_iff,beq_iff_eq,decide_eq_true_eq]
  omega
 rw [e]
theorem ZoX (s:Sv) (o:Opp):ZC [.agg s.cells,.agg o.cells]=some [.agg s.cells,.agg o.cells]:=by
 have h:=Zcl s
 simp only [ZC] at h ⊢
 revert h
 generalize frzG (.agg s.cells)=F
 cases F<;>simp
 rintro rfl
 rfl
theorem c49 (h:Mad n s) (hn:n≤31) (ho:o.ok):∀ H,CallOk E0 Tryz.prog 49 [.agg s.cells,.agg o.cells] H (.tup [.agg (doF s o).1.cells,.int .i64 (doF s o).2]) H:=by
 have hp:=Zhl o.key
 have hsl:=Zhv o.name
 have hl:=h.look (Qe o.name)
 have cs:=c92 ho.2.1
 have cp:=c93 ho.2.2
 have ca:=c27 h.ok (by have:=h.len;omega) (name:=Qe o.name) (by omega) hp.1 (by omega) h.ks
 have cb:=c29 h.ok (by have:=h.len;omega) (name:=Qe o.name) (by omega) hp.1 (by omega) h.ks
 have cc:=c31 h.ok (by have:=h.len;omega) (name:=Qe o.name) (by omega) (by omega) h.ks
 have hfz:=ZoX s o
 have hr:=ZoJ o.kind 3 (by omega)
 have q0:=Zo0 (o.kind % 3) 0
 have q1:=Zo0 (o.kind % 3) 1
 have hfr:=fun m H=>Yp m H
 unfold doF
 clear h hn ho hp hsl hl
 generalize o.kind % 3=R at hr q0 q1 ⊢
 generalize Qe o.name=NM at cs ca cb cc ⊢
 generalize Zlh o.key=KT at cp ca cb ⊢
 generalize Zfi s NM KT=A at ca ⊢
 generalize Zgd s NM KT=B at cb ⊢
 generalize Zga s NM=C at cc ⊢
 obtain ⟨sn,⟨k,nm,z,b,kids⟩,lb,log,kb,keys⟩:=s
 obtain ⟨okind,oname,okey⟩:=o
 obtain ⟨k2,nm2,s2,b2,kids2⟩:=KT
 simp only [Sv.cells,Opp.cells,Tm.cells,List.cons_append,List.nil_append] at cs cp ca cb cc hfz hr
 by_cases hz0:R=0
 · rw [decide_eq_true hz0] at q0
   rw [if_pos hz0]
   obtain ⟨⟨an,⟨ak,anm,az,ab,akids⟩,alb,alog,akb,akeys⟩,ae⟩:=A
   have hf:=fun m H=>hfr m H ⟨an,.mk ak anm az ab akids,alb,alog,akb,akeys⟩ ae
   simp only [Sv.cells,Tm.cells,List.cons_append,List.nil_append,Opp.cells] at ca hf ⊢
   refine Zr (own:=(fun d=>[30008].any (Nat.beq d))) tOk fe49.ok hfz (hf 0 hNil) ?_
   refine Wp.seq ?_
   repeat' first|refine Jc (ca _) ?_|refine Ji ?_|refine Jt ?_|refine Jo ?_|refine Jd (cs _) ?_|refine Jd (cp _) ?_|(apply dAl;rfl;rfl;rfl;rfl;exact IsV.ptrM;exact IsH.mkN)|refine Jh ?_|(apply dWB tOk follows;rfl;kernel_rfl;rfl;exact IsH.mkN)|fail
   all_goals exact hf _ _
 · rw [decide_eq_false hz0] at q0
   rw [if_neg hz0]
   by_cases hz1:R=1
   · rw [decide_eq_true hz1] at q1
     rw [if_pos hz1]
     obtain ⟨⟨an,⟨ak,anm,az,ab,akids⟩,alb,alog,akb,akeys⟩,ae⟩:=B
     have hf:=fun m H=>hfr m H ⟨an,.mk ak anm az ab akids,alb,alog,akb,akeys⟩ ae
     simp only [Sv.cells,Tm.cells,List.cons_append,List.nil_append,Opp.cells] at cb hf ⊢
     refine Zr (own:=(fun d=>[30008].any (Nat.beq d))) tOk fe49.ok hfz (hf 0 hNil) ?_
     refine Wp.seq ?_
     repeat' first|refine Jc (cb _) ?_|refine Ji ?_|refine Jt ?_|refine Jo ?_|refine Jd (cs _) ?_|refine Jd (cp _) ?_|(apply dAl;rfl;rfl;rfl;rfl;exact IsV.ptrM;exact IsH.mkN)|refine Jh ?_|(apply dWB tOk follows;rfl;kernel_rfl;rfl;exact IsH.mkN)|fail
     all_goals exact hf _ _
   · rw [decide_eq_false hz1] at q1
     rw [if_neg hz1]
     obtain ⟨⟨an,⟨ak,anm,az,ab,akids⟩,alb,alog,akb,akeys⟩,ae⟩:=C
     have hf:=fun m H=>hfr m H ⟨an,.mk ak anm az ab akids,alb,alog,akb,akeys⟩ ae
     simp only [Sv.cells,Tm.cells,List.cons_append,List.nil_append,Opp.cells] at cc hf ⊢
     refine Zr (own:=(fun d=>[30008].any (Nat.beq d))) tOk fe49.ok hfz (hf 0 hNil) ?_
     refine Wp.seq ?_
     repeat' first|refine Jc (cc _) ?_|refine Ji ?_|refine Jt ?_|refine Jo ?_|refine Jd (cs _) ?_|refine Jd (cp _) ?_|(apply dAl;rfl;rfl;rfl;rfl;exact IsV.ptrM;exact IsH.mkN)|refine Jh ?_|(apply dWB tOk follows;rfl;kernel_rfl;rfl;exact IsH.mkN)|fail
     all_goals exact hf _ _
theorem Zqw (e:Int):ZV E0 .eql 32 (.int .i64 e) (.int .i64 0)=some (.bool (decide (e=0))):=by
 show some (PV.bool (e==0))=_
 by_cases h:e=0<;>simp [h]
def opC (l:List Opp):List (List PV):=l.map Opp.cells
theorem ZmG (l:List Opp):(opC l).length=l.length:=by simp [opC]
theorem ZmP (h:l[i]? = some o):(opC l)[i]? = some o.cells:=by simp [opC,h]
def ZgN (s:Sv) (o:Opp):Sv:=if (doF s o).2=0 then (doF s o).1 else s
def Xf (l:List Opp):Nat→Sv
 |0=>X3 ZbP
 | i + 1 => match l[i]? with
   | some o=>ZgN (Xf l i) o
   | none=>Xf l i
theorem Zna:Mad 0 (X3 ZbP):=
 ⟨⟨by decide,(Ua (name:=ZbP) (by decide)).1,by have:=(Ua (name:=ZbP) (by decide)).2;show (skT ZbP).size≤900;omega,by simp [X3],by simp [X3],by simp [X3],by simp [X3,Wz],by simp [X3]⟩,rfl,by simp [X3],by simp [X3],by simp [X3]⟩
theorem UD (l:List Opp):∀ {i:Nat},i≤31→Mad i (Xf l i)
 |0,_=>Zna
 | i + 1, h => by
   have ih:=UD l (i:=i) (by omega)
   simp only [Xf]
   split
   · unfold ZgN
     split
     · rename_i he
       exact Zm4 ih (by omega) _ he
     · exact ih.mono (by omega)
   · exact ih.mono (by omega)
theorem Zlb (m:Nat) (H:Heap) (s:Sv):frz3 m H (.agg s.cells)=some (.agg s.cells):=Zjd m H s
theorem Zdr:Y6 ZbP=true:=by decide
theorem c17 (ho:∀ o,o∈l→o.ok) (b:Bool):∀ H,CallOk E0 Tryz.prog 17 [slV b 3 (opC l)] H (.agg (Xf l (min l.length 10)).cells) H:=by
 have hfr:=fun m H=>Zlb m H
 have cn:=c12 ZbP (by decide)
 rw [if_pos Zdr,if_pos Zdr] at cn
 have hz1:=ZmG l
 refine Zr (own:=(fun d=>[30010].any (Nat.beq d))) tOk fe17.ok (by simp only [ZC,Yl]) (hfr 0 hNil _) ?_
 refine Wp.seq ?_
 have e0:Xf l 0=X3 ZbP:=rfl
 have hz:=Zt
 have cn':=cn
 clear cn
 obtain ⟨S0,hS0⟩:∃ S0,S0=X3 ZbP:=⟨_,rfl⟩
 rw [← hS0] at cn' e0
 obtain ⟨sn,⟨k,nm,z,bk,kids⟩,lb,log,kb,keys⟩:=S0
 simp only [Sv.cells,Tm.cells,List.cons_append,List.nil_append] at cn'
 repeat' first|refine Jc (cn' _) ?_|refine Jo ?_|fail
 refine Wp.while (fun m tm H=>∃ (i:Nat) (base:TM),i+m=10∧i≤l.length∧tm=ovr base [(0,slV b 3 (opC l)),(2,.ptr 0 7 0 0),(3,.ptr 1 7 0 0),(5,.int .i64 (i:Int))]∧H=⟨[.cells 7 [svZero.cells],.cells 7 [(Xf l i).cells]],0,[],0⟩)
  (fun m tm H hI=>Wp.drop ?_) 10 _ _ ⟨0,_,by omega,by omega,Zi ⟨rfl,rfl,rfl,rfl,trivial⟩,by rw [e0,Zt];rfl⟩
 clear cn' e0 hS0
 obtain ⟨i,base,hi,hil,rfl,rfl⟩:=hI
 have hM:=UD l (i:=i) (by omega)
 by_cases hlt:i<l.length
 · have hlx : ZV E0 .lss 3 (.int .i64 (i : Int)) (.int .i64 ((opC l).length : Int)) = some (.bool true) := We (by omega)
   by_cases h10:i<10
   · have hly : ZV E0 .lss 3 (.int .i64 (i : Int)) (.int .i64 10) = some (.bool true) := We (by omega)
     obtain ⟨o,hoi⟩:∃ o,l[i]? = some o:=⟨l[i],by simp⟩
     have cd:=c49 hM (by omega) (ho o (List.mem_of_getElem? hoi))
     have hj:=ZmP hoi
     have hst:Xf l (i+1)=ZgN (Xf l i) o:=by simp only [Xf,hoi]
     unfold ZgN at hst
     have be:=Zqw (doF (Xf l i) o).2
     rw [Zt]
     generalize doF (Xf l i) o=D at cd hst be
     generalize Xf l i=S at cd hst
     obtain ⟨⟨an,⟨ak,anm,az,ab,akids⟩,alb,alog,akb,akeys⟩,ae⟩:=D
     obtain ⟨sn2,⟨k2,nm2,z2,bk2,kids2⟩,lb2,log2,kb2,keys2⟩:=S
     obtain ⟨ok,on,oy⟩:=o
     simp only [Sv.cells,Opp.cells,Tm.cells,List.cons_append,List.nil_append] at cd hj
     by_cases he:ae=0
     · rw [decide_eq_true he] at be
       rw [if_pos he] at hst
       simp only [Sv.cells,Tm.cells,List.cons_append,List.nil_append]
       repeat' first|refine Ji ?_|refine Jl ?_|refine Jt ?_|refine Jo ?_|refine Jd (cd _) ?_|(apply dAl;rfl;rfl;rfl;rfl;exact IsV.ptrM;exact IsH.mkN)|refine JI ?_|refine Jh ?_|(apply dWB tOk follows;rfl;kernel_rfl;rfl;exact IsH.mkN)|fail
       exact DropQ.go [(0,slV b 3 (opC l)),(2,.ptr 0 7 0 0),(3,.ptr 1 7 0 0),(5,.int .i64 ((i+1:Nat):Int))] ⟨rfl,rfl,rfl,Zh (Ze (n:=i+1) (by omega)),trivial⟩
        (by simp [Zm,under]) rfl (by simp [YA,ZH,under,Zm]) (LoopI.go (m-1) (by omega) ⟨i+1,_,by omega,by omega,rfl,by rw [hst];rfl⟩)
     · rw [decide_eq_false he] at be
       rw [if_neg he] at hst
       simp only [Sv.cells,Tm.cells,List.cons_append,List.nil_append]
       repeat' first|refine Ji ?_|refine Jl ?_|refine Jt ?_|refine Jo ?_|refine Jd (cd _) ?_|(apply dAl;rfl;rfl;rfl;rfl;exact IsV.ptrM;exact IsH.mkN)|refine JI ?_|refine Jh ?_|(apply dWB tOk follows;rfl;kernel_rfl;rfl;exact IsH.mkN)|fail
       exact DropQ.go [(0,slV b 3 (opC l)),(2,.ptr 0 7 0 0),(3,.ptr 1 7 0 0),(5,.int .i64 ((i+1:Nat):Int))] ⟨rfl,rfl,rfl,Zh (Ze (n:=i+1) (by omega)),trivial⟩
        (by simp [Zm,under]) rfl (by simp [YA,ZH,under,Zm]) (LoopI.go (m-1) (by omega) ⟨i+1,_,by omega,by omega,rfl,by rw [hst];rfl⟩)
   · have e : i = 10 := by omega
     have hly:ZV E0 .lss 3 (.int .i64 (i:Int)) (.int .i64 10)=some (.bool false):=XS (by omega)
     have e2:min l.length 10=i:=by omega
     rw [e2]
     clear e e2 hM
     have hf:=fun m H=>hfr m H (Xf l i)
     rw [Zt]
     generalize Xf l i=S at hf ⊢
     obtain ⟨sn2,⟨k2,nm2,z2,bk2,kids2⟩,lb2,log2,kb2,keys2⟩:=S
     simp only [Sv.cells,Tm.cells,List.cons_append,List.nil_append] at hf ⊢
     repeat' first|refine Ji ?_|refine Jl ?_|refine Jt ?_|refine Jo ?_|fail
     all_goals exact hf _ _
 · have e : i = l.length := by omega
   have hlx:ZV E0 .lss 3 (.int .i64 (i:Int)) (.int .i64 ((opC l).length:Int))=some (.bool false):=XS (by omega)
   have e2:min l.length 10=i:=by omega
   rw [e2]
   clear e e2 hM
   have hf:=fun m H=>hfr m H (Xf l i)
   rw [Zt]
   generalize Xf l i=S at hf ⊢
   obtain ⟨sn2,⟨k2,nm2,z2,bk2,kids2⟩,lb2,log2,kb2,keys2⟩:=S
   simp only [Sv.cells,Tm.cells,List.cons_append,List.nil_append] at hf ⊢
   repeat' first|refine Jk ?_|refine Ji ?_|refine Jl ?_|refine Jt ?_|refine Jo ?_|fail
   all_goals exact hf _ _
open Go.Proofs
theorem Zcx {x:Cred} (he:(Zbj s x).2=0):svV (Zbj s x).1=0:=by
 unfold Zbj at he ⊢
 split at he; · cases he
 split at he; · cases he
 rename_i h1 h2
 rw [if_neg h1,if_neg h2]
 exact Classical.not_not.1 h2
theorem ZkQ (he:(Zfi s name key).2=0):svV (Zfi s name key).1=0:=by
 unfold Zfi at he ⊢
 split at he; · rename_i h;exact absurd he h
 split at he; · rename_i h;exact absurd he h
 split at he; · cases he
 rename_i h1 h2 h3
 rw [if_neg h1,if_neg h2,if_neg h3]
 exact Zcx he
theorem Zkn (he:(Zgd s name key).2=0):svV (Zgd s name key).1=0:=by
 unfold Zgd at he ⊢
 split at he; · rename_i h;exact absurd he h
 split at he; · rename_i h;exact absurd he h
 split at he; · cases he
 split at he; · cases he
 rename_i h1 h2 h3 h4
 rw [if_neg h1,if_neg h2,if_neg h3,if_neg h4]
 exact Zcx he
theorem ZkS (he:(Zga s name).2=0):svV (Zga s name).1=0:=by
 unfold Zga at he ⊢
 split at he; · rename_i h;exact absurd he h
 split at he; · cases he
 rename_i h1 h2
 rw [if_neg h1,if_neg h2]
 exact Zcx he
theorem Zl6 (he:(doF s o).2=0):svV (doF s o).1=0:=by
 unfold doF at he ⊢
 split at he
 · rename_i h
   rw [if_pos h]
   exact ZkQ he
 · rename_i h
   rw [if_neg h]
   split at he
   · rename_i h2
     rw [if_pos h2]
     exact Zkn he
   · rename_i h2
     rw [if_neg h2]
     exact ZkS he
theorem Zml:svV (X3 ZbP)=0:=by kernel_rfl
theorem Zb4 (l:List Opp):∀ i,svV (Xf l i)=0
 |0=>Zml
 | i + 1 => by
   have ih:=Zb4 l i
   simp only [Xf]
   cases l[i]? with
   | none=>exact ih
   | some o =>
     show svV (ZgN (Xf l i) o)=0
     unfold ZgN
     split
     · exact Zl6 (by assumption)
     · exact ih
theorem ZmA (h:(XC a).cl=(XC b).cl):a.cl=b.cl:=by
 simpa [XC,Tm.cl,clL] using h
theorem Zhp {c d:Tm} (h:(YQ a b).cl=(YQ c d).cl):a.cl=c.cl∧b.cl=d.cl:=by
 simpa [YQ,Tm.cl,clL] using h
theorem ZcO:∀ (f n i:Nat) (t:Tm) (p:List Tm) (g:Nat) (l:List Tm),l.length=n→n≤g→i<n→(Y5 f n i t p).2.2=true→(Y5 f n i t p).1.cl=(Z5 (g+1) l).cl→∃ u,l[i]? = some u∧t.cl=u.cl
 |0,n,i,t,p,g,l,_,_,_,h,_=>by simp [Y5] at h
 | f + 1, n, i, t, p, g, l, hl, hg, hi, h, e => by
   simp only [Y5] at h e
   by_cases hn:n=1
   · rw [if_pos hn] at e
     match l,hl with
     | [u],_=>exact ⟨u,by rw [show i=0 by omega];rfl,ZmA e⟩
     | [],hl=>simp at hl;omega
     | _::_::_,hl=>simp at hl;omega
   · rw [if_neg hn] at h e
     match l,g,hl,hg with
     | [],_,hl,_=>simp at hl;omega
     | [_],_,hl,_=>simp at hl;omega
     | a::b::r,0,hl,hg=>simp at hl;omega
     | a :: b :: r, g + 1, hl, hg =>
       have hnr:r.length+2=n:=by simpa using hl
       have hhl:=Ur (n:=n) (by omega)
       have hhp:=WY n
       have eh:Z5 (g+1+1) (a::b::r)=YQ (Z5 (g+1) ((a::b::r).take (Zo n))) (Z5 (g+1) ((a::b::r).drop (Zo n))):=by rw [← hnr];rfl
       rw [eh] at e
       generalize hL:a::b::r=l at hl e ⊢
       have l1:(l.take (Zo n)).length=Zo n:=by rw [List.length_take];omega
       have l2:(l.drop (Zo n)).length=n-Zo n:=by rw [List.length_drop];omega
       by_cases hh:i<Zo n
       · simp only [if_pos hh] at h e
         cases hp:(Y5 f (Zo n) i t p).2.1 with
         | nil=>simp [hp] at h
         | cons c q =>
           simp only [hp] at h e
           by_cases hk:(Y5 f (Zo n) i t p).2.2=false
           · rw [if_pos hk] at h;cases h
           · rw [if_neg hk] at e
             have hk:(Y5 f (Zo n) i t p).2.2=true:=by simpa using hk
             obtain ⟨u,u1,u2⟩:=ZcO f (Zo n) i t p g (l.take (Zo n)) l1 (by omega) hh hk (Zhp e).1
             refine ⟨u,?_,u2⟩
             rw [List.getElem?_take_of_lt hh] at u1
             exact u1
       · simp only [if_neg hh] at h e
         cases hp:(Y5 f (n-Zo n) (i-Zo n) t p).2.1 with
         | nil=>simp [hp] at h
         | cons c q =>
           simp only [hp] at h e
           by_cases hk:(Y5 f (n-Zo n) (i-Zo n) t p).2.2=false
           · rw [if_pos hk] at h;cases h
           · rw [if_neg hk] at e
             have hk:(Y5 f (n-Zo n) (i-Zo n) t p).2.2=true:=by simpa using hk
             obtain ⟨u,u1,u2⟩:=ZcO f (n-Zo n) (i-Zo n) t p g (l.drop (Zo n)) l2 (by omega) (by omega) hk (Zhp e).2
             refine ⟨u,?_,u2⟩
             rw [List.getElem?_drop,show Zo n+(i-Zo n)=i by omega] at u1
             exact u1
theorem Zhg {c:Rd} {a:An} {l:List Tm} (hl:l.length≤32) (h:(Zhk c a).2.2=0) (hs:a.size=l.length) (hh:(Zhk c a).1.head.cmp (Z5 33 l)=0):0≤a.idx∧a.idx<l.length∧∃ u,l[a.idx.toNat]? = some u∧a.entry.cmp u=0:=by
 unfold Zhk at h hh
 split at h; · cases h
 split at h; · cases h
 split at h; · cases h
 split at h; · cases h
 split at h; · cases h
 rename_i h1 h2 h3 h4 h5
 rw [if_neg h1,if_neg h2,if_neg h3,if_neg h4,if_neg h5] at hh
 have hi:Vh a.head a.size a.idx a.entry a.incl=true:=by
  cases hq:Vh a.head a.size a.idx a.entry a.incl with
  | true=>rfl
  | false=>exact absurd (.inr (.inr (.inl hq))) h5
 rw [Zg4] at hi
 have hc:a.head.cl=(Z5 33 l).cl:=by
  have:=Z0.1 hh
  rwa [Zbh] at this
 unfold Zh2 at hi
 split at hi; · cases hi
 rename_i hr
 simp only [Bool.and_eq_true,decide_eq_true_eq] at hi
 obtain ⟨u,u1,u2⟩:=ZcO 32 a.size.toNat a.idx.toNat a.entry a.incl 32 l (by omega) (by omega) (by omega) hi.1.1 ((Z0.1 hi.2).trans hc)
 exact ⟨by omega,by omega,u,u1,Z0.2 u2⟩
theorem ZjV (l:List Opp) (hi:i≤31):ZiF (Xf l i)=(⟨pkT (skT ZbP).cl,0,.zero,.zero⟩,0):=by
 unfold ZiF
 rw [XV,Zb4,if_neg (not_not_intro rfl),(UD l hi).key]
theorem ZcP (h:svV s=0):enB (YF s.log s.log.length) s.keys=true:=by
 unfold svV at h
 split at h; · cases h
 split at h; · cases h
 split at h; · cases h
 split at h; · cases h
 split at h; · cases h
 split at h; · cases h
 rename_i h6
 simpa using h6
open Go.Proofs
def rd0:Rd:=⟨pkT (skT ZbP).cl,0,.zero,.zero⟩
theorem ZlL:Zhd 2000 rd0:=by
 have h:=Ua (name:=ZbP) (by decide)
 have hz:=Zcg (S:=2000) (by omega)
 refine ⟨⟨ok1 (by decide) (Vi h.1),?_⟩,hz.2,hz.2⟩
 have e:(pkT (skT ZbP).cl).size=(skT ZbP).cl.size+1:=QU
 show (pkT (skT ZbP).cl).size≤_
 rw [e,YK]
 have:=h.2
 omega
theorem Zut (a b:Int):ZV E0 .neq 3 (.int .i64 a) (.int .i64 b)=some (.bool (decide (a≠b))):=by
 show some (PV.bool (!(a==b)))=_
 by_cases h:a=b<;>simp [h]
theorem ZeQ {l:List Tm} {u:Tm} (h:l[i]? = some u):(Za l)[i]? = some u.cells:=by simp [YN,h]
theorem Zvl (a b:Int):ZV E0 .geq 3 (.int .i64 a) (.int .i64 b)=some (.bool (decide (b≤a))):=rfl
theorem c5 {l:List Opp} (hl:∀ o,o∈l→o.ok) (bl:Bool) {a:An} (ha:AnOk a) (wi:(Lit.int .i64 a.idx).wf=true) (ws:(Lit.int .i64 a.size).wf=true):∀ H,CallOk E0 Tryz.prog 5 [slV bl 3 (opC l),.agg a.cells] H (.bool true) H:=by
 have haw:=ZaD
 have c2:=c21 ha
 have c3:=c17 hl bl
 have hM:=UD l (i:=min l.length 10) (by omega)
 have c4:=c9 hM.ok
 rw [ZjV l (by omega)] at c4
 have e4:(⟨pkT (skT ZbP).cl,0,.zero,.zero⟩:Rd)=rd0:=rfl
 rw [e4] at c4
 generalize opC l=OC at c3 ⊢
 cases hA:ZkU a with
 | false =>
   rw [hA] at c2
   clear c3 c4 e4 hM
   clear hA ha wi ws
   obtain ⟨name,⟨k4,nm4,s4,b4,kids4⟩,ai,n',⟨k5,nm5,s5,b5,kids5⟩,⟨k6,nm6,s6,b6,kids6⟩,ib,incl,eb,ext⟩:=a
   simp only [An.cells,Tm.cells,List.cons_append,List.nil_append] at c2 ⊢
   refine Jw tOk fe5.ok rfl ?_ (by simp only [ZC,Yl];simp only [frzG,Xm,Zu];rfl)
   repeat' first|refine Jc (haw _) ?_|refine Jc (c2 _) ?_|refine Jt ?_|refine Jo ?_|fail
   all_goals rfl
 | true =>
   rw [hA] at c2
   simp only [ZkU,Bool.and_eq_true,decide_eq_true_eq] at hA
   have hf2:=Zhz hA.2.1
   have hs:AnSm a 2000:=⟨ha,hA.1,hf2 _ (by simp),hf2 _ (by simp),hf2 _ (by simp),Zhz hA.2.2.1,Zhz hA.2.2.2,wi,ws⟩
   have c5:=c22 ZlL (by decide) hs
   have hln:=Zb (Xf l (min l.length 10)).log
   have hl32:(Xf l (min l.length 10)).log.length≤32:=by have:=hM.len;omega
   have c6:=c24 32 hl32 hl32 (Xf l (min l.length 10)).lb
   have k1:=ZmS ZlL hs
   have k2:=Um (S:=150) 32 hl32 fun t ht=>⟨hM.ok.l t ht,hM.sz t ht⟩
   have c7:=c23 k1.1.2.1.1 k2.1 (by have:=k1.1.2.1.2;omega) (by have:=k2.2;have:max (Xf l (min l.length 10)).log.length 1≤32:=(by omega);have:=Nat.mul_le_mul_right (150+11) this;omega)
   have hst:=fun h1 h2 h3=>Zhg (c:=rd0) (a:=a) hl32 h1 h2 h3
   have c8:=fun (t:Tm) (ht:t∈(Xf l (min l.length 10)).log)=>c23 ha.e (hM.ok.l t ht) (by have:=hs.e;omega) (by have:=hM.sz t ht;omega)
   have e1:=Ye (Zhk rd0 a).2.2
   have e2:=Zut a.size ((Za (Xf l (min l.length 10)).log).length:Int)
   have g3:=Zvl a.idx 0
   rw [← hln] at hst
   simp only [ZjR] at c5
   clear e4 hf2 hA ha hs k1 k2 wi ws hM hl32
   generalize Zhk rd0 a=P at c5 c7 hst e1
   generalize rd0=R0 at c4 c5
   generalize hHT:Z5 33 (Xf l (min l.length 10)).log=HT at hst
   rw [show Z5 (32+1) (Xf l (min l.length 10)).log=HT from hHT] at c6 c7
   clear hHT
   generalize Xf l (min l.length 10)=S at c3 c4 c6 hst c8 e2 hln
   by_cases hF:P.2.2=0
   · rw [decide_eq_false (not_not_intro hF)] at e1
     by_cases hsz:a.size=((Za S.log).length:Int)
     · rw [decide_eq_false (not_not_intro hsz)] at e2
       by_cases hh:P.1.head.cmp HT=0
       · rw [decide_eq_true hh] at c7
         obtain ⟨i0,i1,u,u1,u2⟩:=hst hF hsz hh
         have c9:=c8 u (List.mem_of_getElem? u1)
         rw [decide_eq_true u2] at c9
         rw [decide_eq_true i0] at g3
         have g4:ZV E0 .lss 3 (.int .i64 a.idx) (.int .i64 ((Za S.log).length:Int))=some (.bool true):=We i1
         obtain ⟨j,hj⟩:=Int.eq_ofNat_of_zero_le i0
         rw [hj,Int.toNat_natCast] at u1
         have hg:=ZeQ u1
         clear c8 i0 i1 hF hsz hh u1 u2
         clear hst
         obtain ⟨⟨⟨k7,nm7,s7,b7,kids7⟩,n1,⟨k8,nm8,s8,b8,kids8⟩,k9,nm9,s9,b9,kids9⟩,⟨ka,nma,sa,ba,kidsa⟩,e1⟩:=P
         obtain ⟨⟨kb,nmb,sb,bb,kidsb⟩,n2,⟨kc,nmc,sc,bc,kidsc⟩,kd,nmd,sd,bd,kidsd⟩:=R0
         obtain ⟨kh,nmh,sh,bh,kidsh⟩:=HT
         obtain ⟨sn,⟨k,nm,z,b,kids⟩,lb,log,kb,keys⟩:=S
         obtain ⟨name,⟨k4,nm4,s4,b4,kids4⟩,ai,n',⟨k5,nm5,s5,b5,kids5⟩,⟨k6,nm6,s6,b6,kids6⟩,ib,incl,eb,ext⟩:=a
         subst hj;obtain ⟨kk,nmk,sk,bk,kidsk⟩:=u
         simp only [Sv.cells,Rd.cells,An.cells,Tm.cells,List.cons_append,List.nil_append] at c2 c3 c4 c5 c6 c7 c9 e1 e2 g3 g4 hg ⊢
         refine Zr (own:=(fun _=>false)) tOk fe5.ok (by simp only [ZC,Yl];simp only [frzG,Xm,Zu];rfl) rfl ?_
         refine Wp.seq ?_
         repeat' first|(apply qCl;rfl;rfl;rfl;rfl;first|exact haw _|exact c2 _|exact c3 _|exact c4 _|exact c5 _)|refine Jt ?_|refine Jo ?_|(apply dCl;rfl;rfl;rfl;rfl;rfl;first|exact c6 _|exact c7 _|exact c9 _)|refine JD ?_|(apply dLn;rfl;rfl;rfl;rfl;rfl)|refine JI ?_|(apply dT (ty:=4);rfl;rfl;rfl;rfl)|(apply dF (ty:=4);rfl;rfl;rfl;rfl)|refine Jh ?_|(apply Wp.draw tOk follows;kernel_rfl)|fail
         all_goals rfl
       · rw [decide_eq_false hh] at c7
         clear c8 g3
         clear hst
         obtain ⟨⟨⟨k7,nm7,s7,b7,kids7⟩,n1,⟨k8,nm8,s8,b8,kids8⟩,k9,nm9,s9,b9,kids9⟩,⟨ka,nma,sa,ba,kidsa⟩,e1⟩:=P
         obtain ⟨⟨kb,nmb,sb,bb,kidsb⟩,n2,⟨kc,nmc,sc,bc,kidsc⟩,kd,nmd,sd,bd,kidsd⟩:=R0
         obtain ⟨kh,nmh,sh,bh,kidsh⟩:=HT
         obtain ⟨sn,⟨k,nm,z,b,kids⟩,lb,log,kb,keys⟩:=S
         obtain ⟨name,⟨k4,nm4,s4,b4,kids4⟩,ai,n',⟨k5,nm5,s5,b5,kids5⟩,⟨k6,nm6,s6,b6,kids6⟩,ib,incl,eb,ext⟩:=a
         skip
         simp only [Sv.cells,Rd.cells,An.cells,Tm.cells,List.cons_append,List.nil_append] at c2 c3 c4 c5 c6 c7 e1 e2 ⊢
         refine Zr (own:=(fun _=>false)) tOk fe5.ok (by simp only [ZC,Yl];simp only [frzG,Xm,Zu];rfl) rfl ?_
         refine Wp.seq ?_
         repeat' first|(apply qCl;rfl;rfl;rfl;rfl;first|exact haw _|exact c2 _|exact c3 _|exact c4 _|exact c5 _)|refine Jt ?_|refine Jo ?_|refine Jd (c6 _) ?_|refine Jd (c7 _) ?_|refine JD ?_|(apply dLn;rfl;rfl;rfl;rfl;rfl)|(apply dT (ty:=4);rfl;rfl;rfl;rfl)|(apply dF (ty:=4);rfl;rfl;rfl;rfl)|refine Jh ?_|(apply Wp.draw tOk follows;kernel_rfl)|fail
         all_goals rfl
     · rw [decide_eq_true hsz] at e2
       clear c8 g3 c7 c6
       clear hst
       obtain ⟨⟨⟨k7,nm7,s7,b7,kids7⟩,n1,⟨k8,nm8,s8,b8,kids8⟩,k9,nm9,s9,b9,kids9⟩,⟨ka,nma,sa,ba,kidsa⟩,e1⟩:=P
       obtain ⟨⟨kb,nmb,sb,bb,kidsb⟩,n2,⟨kc,nmc,sc,bc,kidsc⟩,kd,nmd,sd,bd,kidsd⟩:=R0
       obtain ⟨kh,nmh,sh,bh,kidsh⟩:=HT
       obtain ⟨sn,⟨k,nm,z,b,kids⟩,lb,log,kb,keys⟩:=S
       obtain ⟨name,⟨k4,nm4,s4,b4,kids4⟩,ai,n',⟨k5,nm5,s5,b5,kids5⟩,⟨k6,nm6,s6,b6,kids6⟩,ib,incl,eb,ext⟩:=a
       skip
       simp only [Sv.cells,Rd.cells,An.cells,Tm.cells,List.cons_append,List.nil_append] at c2 c3 c4 c5 e1 e2 ⊢
       refine Zr (own:=(fun _=>false)) tOk fe5.ok (by simp only [ZC,Yl];simp only [frzG,Xm,Zu];rfl) rfl ?_
       refine Wp.seq ?_
       repeat' first|(apply qCl;rfl;rfl;rfl;rfl;first|exact haw _|exact c2 _|exact c3 _|exact c4 _|exact c5 _)|refine Jt ?_|refine Jo ?_|(apply dK;rfl;rfl;rfl)|refine JD ?_|(apply dLn;rfl;rfl;rfl;rfl;rfl)|(apply dT (ty:=4);rfl;rfl;rfl;rfl)|(apply dF (ty:=4);rfl;rfl;rfl;rfl)|refine Jh ?_|(apply Wp.draw tOk follows;kernel_rfl)|fail
       all_goals rfl
   · rw [decide_eq_true hF] at e1
     clear c8 g3 c7 c6 e2
     clear hst
     obtain ⟨⟨⟨k7,nm7,s7,b7,kids7⟩,n1,⟨k8,nm8,s8,b8,kids8⟩,k9,nm9,s9,b9,kids9⟩,⟨ka,nma,sa,ba,kidsa⟩,e1⟩:=P
     obtain ⟨⟨kb,nmb,sb,bb,kidsb⟩,n2,⟨kc,nmc,sc,bc,kidsc⟩,kd,nmd,sd,bd,kidsd⟩:=R0
     obtain ⟨kh,nmh,sh,bh,kidsh⟩:=HT
     obtain ⟨sn,⟨k,nm,z,b,kids⟩,lb,log,kb,keys⟩:=S
     obtain ⟨name,⟨k4,nm4,s4,b4,kids4⟩,ai,n',⟨k5,nm5,s5,b5,kids5⟩,⟨k6,nm6,s6,b6,kids6⟩,ib,incl,eb,ext⟩:=a
     skip
     simp only [Sv.cells,Rd.cells,An.cells,Tm.cells,List.cons_append,List.nil_append] at c2 c3 c4 c5 e1 ⊢
     refine Zr (own:=(fun _=>false)) tOk fe5.ok (by simp only [ZC,Yl];simp only [frzG,Xm,Zu];rfl) rfl ?_
     refine Wp.seq ?_
     repeat' first|(apply qCl;rfl;rfl;rfl;rfl;first|exact haw _|exact c2 _|exact c3 _|exact c4 _|exact c5 _)|refine Jt ?_|refine Jo ?_|(apply dK;rfl;rfl;rfl)|refine JD ?_|(apply dT (ty:=4);rfl;rfl;rfl;rfl)|refine Jh ?_|(apply Wp.draw tOk follows;kernel_rfl)|fail
     all_goals rfl
end Go.Vm.Seat
