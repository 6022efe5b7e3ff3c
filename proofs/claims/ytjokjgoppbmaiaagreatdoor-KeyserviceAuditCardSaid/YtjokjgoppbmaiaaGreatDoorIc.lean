/-
  The services behind changes, as the document makes them.
-/
import Derived.Test.YtjokjgoppbmaiaaGreatDoorIb
set_option maxHeartbeats 64000000
set_option maxRecDepth 100000
namespace Go.Vm.Seat
open Go.Proofs
def logN:Bs:=[108,111,103]
structure Mad (n:Nat) (s:Sv):Prop where
 ok:SvOk s
 key:s.key=skT logN
 len:s.log.length≤n
 sz:∀ t,t∈s.log→t.size≤150
 rk:∀ t,t∈s.log→(readP t).1.key.size≤10
theorem look_key {name:Bs}:∀ {l:List Tm},(∀ t,t∈l→(readP t).1.key.size≤10)→(lookF name l).1.size≤10
 | [],_=>by simp [lookF,Tm.zero,Tm.size,sizeL]
 | t :: r, h => by
   simp only [lookF]
   split
   · exact h t (by simp)
   · exact look_key fun u hu=>h u (by simp [hu])
theorem Mad.ks {n:Nat} {s:Sv} (h:Mad n s):s.key.size≤50:=by
 rw [h.key]
 have:=(skT_ok (name:=logN) (by decide)).2
 omega
theorem Mad.look {n:Nat} {s:Sv} (h:Mad n s) (name:Bs):(lookF name s.log.reverse).1.Ok∧(lookF name s.log.reverse).1.size≤10:=
 ⟨(lookF_ok (name:=name) (S:=900) (by omega) (l:=s.log.reverse) fun u hu=>⟨h.ok.l u (List.mem_reverse.1 hu),h.ok.ls u (List.mem_reverse.1 hu)⟩).1,look_key fun u hu=>h.rk u (List.mem_reverse.1 hu)⟩
theorem Mad.mono {n m:Nat} {s:Sv} (h:Mad n s) (hm:n≤m):Mad m s:=⟨h.ok,h.key,Nat.le_trans h.len hm,h.sz,h.rk⟩
theorem addF_mad {n:Nat} {s:Sv} (h:Mad n s) (hn:n≤31) {name:Bs} {key:Tm} {i t:Int} (hk:key.Ok) (hks:key.size≤10) (he:(addF s (credN name key i t)).2=0):Mad (n+1) (addF s (credN name key i t)).1:=by
 unfold addF at he ⊢
 split at he; · cases he
 split at he; · cases he
 rename_i hz1 h2
 rw [if_neg hz1,if_neg h2]
 have hz1:((credN name key i t).issue s.key).2=0:=Classical.not_not.1 hz1
 have hr:=read_issue hz1
 have hio:=issue_small (x:=credN name key i t) (key:=s.key) hk h.ok.k
 have hz:((credN name key i t).issue s.key).1.size≤150:=by
  have:=hio.2
  have h3:=(skT_ok (name:=logN) (by decide)).2
  rw [h.key] at this ⊢
  simp only [credN] at this ⊢
  omega
 refine ⟨addO_ok h.ok (by have:=h.len;omega) hio.1 (by omega),h.key,?_,?_,?_⟩
 · show (s.log ++ [_]).length ≤ n + 1
   have:=h.len
   simp only [List.length_append,List.length_singleton]
   omega
 · intro u hu
   have hu:u∈s.log ++ [((credN name key i t).issue s.key).1]:=hu
   simp only [List.mem_append,List.mem_singleton] at hu
   rcases hu with hu | rfl
   · exact h.sz u hu
   · exact hz
 · intro u hu
   have hu:u∈s.log ++ [((credN name key i t).issue s.key).1]:=hu
   simp only [List.mem_append,List.mem_singleton] at hu
   rcases hu with hu | rfl
   · exact h.rk u hu
   · rw [hr]
     exact hks
def subjL:List Bs:=[[111,114,103],[97,46,111,114,103],[98,46,97,46,111,114,103],[110,101,116],[99,46,110,101,116],[97,46,98,46,97,46,111,114,103]]
def keyL:List Bs:=[[114],[97],[98],[99]]
def subjN (n:Nat):Bs:=(subjL[n % 6]?).getD []
def keyN (n:Nat):Bs:=(keyL[n % 4]?).getD []
def pubT (n:Nat):Tm:=pkT (skT (keyN n))
theorem subjN_len (n:Nat):(subjN n).length≤100:=by
 unfold subjN
 have h:n % 6 < 6:=Nat.mod_lt _ (by omega)
 generalize n % 6=m at h
 match m,h with
 | 0,_ | 1,_ | 2,_ | 3,_ | 4,_ | 5,_=>decide
theorem keyN_len (n:Nat):(keyN n).length≤100:=by
 unfold keyN
 have h:n % 4 < 4:=Nat.mod_lt _ (by omega)
 generalize n % 4=m at h
 match m,h with
 | 0,_ | 1,_ | 2,_ | 3,_=>decide
theorem pubT_ok (n:Nat):(pubT n).Ok∧(pubT n).size≤10:=by
 have h:=skT_ok (name:=keyN n) (by have:=keyN_len n;omega)
 refine ⟨ok1 (by decide) h.1,?_⟩
 have:(pubT n).size=(skT (keyN n)).size+1:=size_kid
 omega
theorem subjAll:((List.range 256).all fun n=>okFact E0 100 60 ⟨35,[.int .u8 (n:Int)],.str (subjN n)⟩)=true:=by kernel_rfl
theorem c35 {n:Nat} (h:n < 256):∀ H,CallOk E0 Tryz.prog 35 [.int .u8 (n:Int)] H (.str (subjN n)) H:=
 okFact_ok tOk follows fOk zOk (List.all_eq_true.1 subjAll n (List.mem_range.2 h))
theorem pubAll:((List.range 256).all fun n=>okFact E0 100 60 ⟨18,[.int .u8 (n:Int)],.agg (pubT n).cells⟩)=true:=by kernel_rfl
theorem c18 {n:Nat} (h:n < 256):∀ H,CallOk E0 Tryz.prog 18 [.int .u8 (n:Int)] H (.agg (pubT n).cells) H:=
 okFact_ok tOk follows fOk zOk (List.all_eq_true.1 pubAll n (List.mem_range.2 h))
structure Opp where
 kind:Nat
 name:Nat
 key:Nat
def Opp.cells (o:Opp):List PV:=[.int .u8 (o.kind:Int),.int .u8 (o.name:Int),.int .u8 (o.key:Int)]
def Opp.ok (o:Opp):Prop:=o.kind < 256∧o.name < 256∧o.key < 256
def doF (s:Sv) (o:Opp):Sv×Int:=if o.kind % 3=0 then regF s (subjN o.name) (pubT o.key) else if o.kind % 3=1 then rotF s (subjN o.name) (pubT o.key) else revF s (subjN o.name)
theorem doF_mad {n:Nat} {s:Sv} (h:Mad n s) (hn:n≤31) (o:Opp) (he:(doF s o).2=0):Mad (n+1) (doF s o).1:=by
 have hp:=pubT_ok o.key
 have hl:=h.look (subjN o.name)
 unfold doF at he ⊢
 split at he
 · rename_i hz1
   rw [if_pos hz1]
   unfold regF at he ⊢
   split at he; · rename_i h2;exact absurd he h2
   split at he; · rename_i h2;exact absurd he h2
   split at he; · cases he
   rename_i h2 h3 h4
   rw [if_neg h2,if_neg h3,if_neg h4]
   exact addF_mad h hn hp.1 hp.2 he
 · rename_i hz1
   rw [if_neg hz1]
   split at he
   · rename_i h2
     rw [if_pos h2]
     unfold rotF at he ⊢
     split at he; · rename_i h2;exact absurd he h2
     split at he; · rename_i h2;exact absurd he h2
     split at he; · cases he
     split at he; · cases he
     rename_i h2 h3 h4 h5
     rw [if_neg h2,if_neg h3,if_neg h4,if_neg h5]
     exact addF_mad h hn hp.1 hp.2 he
   · rename_i h2
     rw [if_neg h2]
     unfold revF at he ⊢
     split at he; · rename_i h2;exact absurd he h2
     split at he; · cases he
     rename_i h2 h3
     rw [if_neg h2,if_neg h3]
     exact addF_mad h hn hl.1 hl.2 he
theorem rem_u8 (k m:Nat) (hm:m≠0):aBin E0 .rem 5 (.int .u8 (k:Int)) (.int .u8 (m:Int))=some (.int .u8 ((k % m:Nat):Int)):=by
 show (if (m:Int)=0 then none else some (PV.int .u8 ((k:Int).tmod (m:Int))))=_
 rw [if_neg (by omega)]
 rfl
theorem eq_u8 (a b:Nat):aBin E0 .eql 5 (.int .u8 (a:Int)) (.int .u8 (b:Int))=some (.bool (decide (a=b))):=by
 show some (PV.bool ((a:Int) == (b:Int)))=_
 have e:((a:Int) == (b:Int))=decide (a=b):=by
  rw [Bool.eq_iff_iff,beq_iff_eq,decide_eq_true_eq]
  omega
 rw [e]
theorem frzSvO (s:Sv) (o:Opp):frzGL [.agg s.cells,.agg o.cells]=some [.agg s.cells,.agg o.cells]:=by
 have h:=frzSv s
 simp only [frzGL] at h ⊢
 revert h
 generalize frzG (.agg s.cells)=F
 cases F <;> simp
 rintro rfl
 rfl
theorem c72 {n:Nat} {s:Sv} (h:Mad n s) (hn:n≤31) {o:Opp} (ho:o.ok):∀ H,CallOk E0 Tryz.prog 72 [.agg s.cells,.agg o.cells] H (.tup [.agg (doF s o).1.cells,.int .i64 (doF s o).2]) H:=by
 have hp:=pubT_ok o.key
 have hsl:=subjN_len o.name
 have hl:=h.look (subjN o.name)
 have cs:=c35 ho.2.1
 have cp:=c18 ho.2.2
 have ca:=c146 h.ok (by have:=h.len;omega) (name:=subjN o.name) (by omega) hp.1 (by omega) h.ks
 have cb:=c147 h.ok (by have:=h.len;omega) (name:=subjN o.name) (by omega) hp.1 (by omega) h.ks
 have cc:=c148 h.ok (by have:=h.len;omega) (name:=subjN o.name) (by omega) (by omega) h.ks
 have hfz:=frzSvO s o
 have hr:=rem_u8 o.kind 3 (by omega)
 have q0:=eq_u8 (o.kind % 3) 0
 have q1:=eq_u8 (o.kind % 3) 1
 have hfr:=fun m H=>frz3_svI m H
 unfold doF
 clear h hn ho hp hsl hl
 generalize o.kind % 3=R at hr q0 q1 ⊢
 generalize subjN o.name=NM at cs ca cb cc ⊢
 generalize pubT o.key=KT at cp ca cb ⊢
 generalize regF s NM KT=A at ca ⊢
 generalize rotF s NM KT=B at cb ⊢
 generalize revF s NM=C at cc ⊢
 obtain ⟨sn,⟨k,nm,z,b,kids⟩,lb,log,kb,keys⟩:=s
 obtain ⟨okind,oname,okey⟩:=o
 obtain ⟨k2,nm2,s2,b2,kids2⟩:=KT
 simp only [Sv.cells,Opp.cells,Tm.cells,List.cons_append,List.nil_append] at cs cp ca cb cc hfz hr
 by_cases hz0:R=0
 · rw [decide_eq_true hz0] at q0
   rw [if_pos hz0]
   obtain ⟨⟨an,⟨ak,anm,az,ab,akids⟩,alb,alog,akb,akeys⟩,ae⟩:=A
   have hf:=fun m H=>hfr m H ⟨an,.mk ak anm az ab akids,alb,alog,akb,akeys⟩ ae
   simp only [Sv.cells,Tm.cells,List.cons_append,List.nil_append,Opp.cells] at ca hf ⊢
   refine callOk_wp (own:=(fun d=>[30008].any (Nat.beq d))) tOk fe72.ok hfz (hf 0 hNil) ?_
   refine Wp.seq ?_
   repeat' first | refine κn ?_ | refine κc (ca _) ?_ | refine κi ?_ | refine κt ?_ | refine κg ?_ | refine κd (cs _) ?_ | refine κd (cp _) ?_ | (apply dAl;rfl;rfl;rfl;rfl;exact IsV.ptrM;exact IsH.mkN) | refine κh ?_ | refine κa ?_ | (apply dWB tOk follows;rfl;kernel_rfl;rfl;exact IsH.mkN) | refine κf ?_ | fail
   all_goals exact hf _ _
 · rw [decide_eq_false hz0] at q0
   rw [if_neg hz0]
   by_cases hz1:R=1
   · rw [decide_eq_true hz1] at q1
     rw [if_pos hz1]
     obtain ⟨⟨an,⟨ak,anm,az,ab,akids⟩,alb,alog,akb,akeys⟩,ae⟩:=B
     have hf:=fun m H=>hfr m H ⟨an,.mk ak anm az ab akids,alb,alog,akb,akeys⟩ ae
     simp only [Sv.cells,Tm.cells,List.cons_append,List.nil_append,Opp.cells] at cb hf ⊢
     refine callOk_wp (own:=(fun d=>[30008].any (Nat.beq d))) tOk fe72.ok hfz (hf 0 hNil) ?_
     refine Wp.seq ?_
     repeat' first | refine κn ?_ | refine κc (cb _) ?_ | refine κi ?_ | refine κt ?_ | refine κg ?_ | refine κd (cs _) ?_ | refine κd (cp _) ?_ | (apply dAl;rfl;rfl;rfl;rfl;exact IsV.ptrM;exact IsH.mkN) | refine κh ?_ | refine κa ?_ | (apply dWB tOk follows;rfl;kernel_rfl;rfl;exact IsH.mkN) | refine κf ?_ | fail
     all_goals exact hf _ _
   · rw [decide_eq_false hz1] at q1
     rw [if_neg hz1]
     obtain ⟨⟨an,⟨ak,anm,az,ab,akids⟩,alb,alog,akb,akeys⟩,ae⟩:=C
     have hf:=fun m H=>hfr m H ⟨an,.mk ak anm az ab akids,alb,alog,akb,akeys⟩ ae
     simp only [Sv.cells,Tm.cells,List.cons_append,List.nil_append,Opp.cells] at cc hf ⊢
     refine callOk_wp (own:=(fun d=>[30008].any (Nat.beq d))) tOk fe72.ok hfz (hf 0 hNil) ?_
     refine Wp.seq ?_
     repeat' first | refine κn ?_ | refine κc (cc _) ?_ | refine κi ?_ | refine κt ?_ | refine κg ?_ | refine κd (cs _) ?_ | refine κd (cp _) ?_ | (apply dAl;rfl;rfl;rfl;rfl;exact IsV.ptrM;exact IsH.mkN) | refine κh ?_ | refine κa ?_ | (apply dWB tOk follows;rfl;kernel_rfl;rfl;exact IsH.mkN) | refine κf ?_ | fail
     all_goals exact hf _ _
theorem erq_d (e:Int):aBin E0 .eql 31 (.int .i64 e) (.int .i64 0)=some (.bool (decide (e=0))):=by
 show some (PV.bool (e == 0))=_
 by_cases h:e=0 <;> simp [h]
def opC (l:List Opp):List (List PV):=l.map Opp.cells
theorem opC_len (l:List Opp):(opC l).length=l.length:=by simp [opC]
theorem opC_get {l:List Opp} {i:Nat} {o:Opp} (h:l[i]? = some o):(opC l)[i]? = some o.cells:=by simp [opC,h]
def stepS (s:Sv) (o:Opp):Sv:=if (doF s o).2=0 then (doF s o).1 else s
def madeF (l:List Opp):Nat→Sv
 | 0=>svNew logN
 | i + 1 => match l[i]? with
   | some o=>stepS (madeF l i) o
   | none=>madeF l i
theorem new_mad:Mad 0 (svNew logN):=
 ⟨⟨by decide,(skT_ok (name:=logN) (by decide)).1,by have:=(skT_ok (name:=logN) (by decide)).2;show (skT logN).size≤900;omega,by simp [svNew],by simp [svNew],by simp [svNew],by simp [svNew,EnsOk],by simp [svNew]⟩,rfl,by simp [svNew],by simp [svNew],by simp [svNew]⟩
theorem made_mad (l:List Opp):∀ {i:Nat},i≤31→Mad i (madeF l i)
 | 0,_=>new_mad
 | i + 1, h => by
   have ih:=made_mad l (i:=i) (by omega)
   simp only [madeF]
   split
   · unfold stepS
     split
     · rename_i he
       exact doF_mad ih (by omega) _ he
     · exact ih.mono (by omega)
   · exact ih.mono (by omega)
theorem frz3_svA (m:Nat) (H:Heap) (s:Sv):frz3 m H (.agg s.cells)=some (.agg s.cells):=frz2_sv m H s
theorem new_right:rightB logN=true:=by decide
theorem c32 {l:List Opp} (ho:∀ o,o∈l→o.ok) (b:Bool):∀ H,CallOk E0 Tryz.prog 32 [slV b 3 (opC l)] H (.agg (madeF l (min l.length 10)).cells) H:=by
 have hfr:=fun m H=>frz3_svA m H
 have cn:=c71 logN (by decide)
 rw [if_pos new_right,if_pos new_right] at cn
 have hz1:=opC_len l
 refine callOk_wp (own:=(fun d=>[30010].any (Nat.beq d))) tOk fe32.ok (by simp only [frzGL,frzG_slV]) (hfr 0 hNil _) ?_
 refine Wp.seq ?_
 have e0:madeF l 0=svNew logN:=rfl
 have hz:=svZero_cells
 have cn':=cn
 clear cn
 obtain ⟨S0,hS0⟩:∃ S0,S0=svNew logN:=⟨_,rfl⟩
 rw [← hS0] at cn' e0
 obtain ⟨sn,⟨k,nm,z,bk,kids⟩,lb,log,kb,keys⟩:=S0
 simp only [Sv.cells,Tm.cells,List.cons_append,List.nil_append] at cn'
 repeat' first | refine κn ?_ | refine κc (cn' _) ?_ | refine κg ?_ | refine κa ?_ | fail
 refine Wp.while (fun m tm H=>∃ (i:Nat) (base:TM),i+m=10∧i≤l.length∧tm=ovr base [(0,slV b 3 (opC l)),(2,.ptr 0 7 0 0),(3,.ptr 1 7 0 0),(5,.int .i64 (i:Int))]∧H=⟨[.cells 7 [svZero.cells],.cells 7 [(madeF l i).cells]],0,[],0⟩)
  (fun m tm H hI=>Wp.drop ?_) 10 _ _ ⟨0,_,by omega,by omega,ovr_mk ⟨rfl,rfl,rfl,rfl,trivial⟩,by rw [e0,svZero_cells];rfl⟩
 clear cn' e0 hS0
 obtain ⟨i,base,hi,hil,rfl,rfl⟩:=hI
 have hM:=made_mad l (i:=i) (by omega)
 by_cases hlt:i < l.length
 · have hlx : aBin E0 .lss 3 (.int .i64 (i : Int)) (.int .i64 ((opC l).length : Int)) = some (.bool true) := lss_t (by omega)
   by_cases h10:i < 10
   · have hly : aBin E0 .lss 3 (.int .i64 (i : Int)) (.int .i64 10) = some (.bool true) := lss_t (by omega)
     obtain ⟨o,hoi⟩:∃ o,l[i]? = some o:=⟨l[i],by simp⟩
     have cd:=c72 hM (by omega) (ho o (List.mem_of_getElem? hoi))
     have hj:=opC_get hoi
     have hst:madeF l (i+1)=stepS (madeF l i) o:=by simp only [madeF,hoi]
     unfold stepS at hst
     have be:=erq_d (doF (madeF l i) o).2
     rw [svZero_cells]
     generalize doF (madeF l i) o=D at cd hst be
     generalize madeF l i=S at cd hst
     obtain ⟨⟨an,⟨ak,anm,az,ab,akids⟩,alb,alog,akb,akeys⟩,ae⟩:=D
     obtain ⟨sn2,⟨k2,nm2,z2,bk2,kids2⟩,lb2,log2,kb2,keys2⟩:=S
     obtain ⟨ok,on,oy⟩:=o
     simp only [Sv.cells,Opp.cells,Tm.cells,List.cons_append,List.nil_append] at cd hj
     by_cases he:ae=0
     · rw [decide_eq_true he] at be
       rw [if_pos he] at hst
       simp only [Sv.cells,Tm.cells,List.cons_append,List.nil_append]
       repeat' first | refine κn ?_ | refine κi ?_ | refine κl ?_ | refine κt ?_ | refine κg ?_ | refine κd (cd _) ?_ | (apply dAl;rfl;rfl;rfl;rfl;exact IsV.ptrM;exact IsH.mkN) | refine κI ?_ | refine κh ?_ | refine κa ?_ | (apply dWB tOk follows;rfl;kernel_rfl;rfl;exact IsH.mkN) | fail
       exact DropQ.go [(0,slV b 3 (opC l)),(2,.ptr 0 7 0 0),(3,.ptr 1 7 0 0),(5,.int .i64 ((i+1:Nat):Int))] ⟨rfl,rfl,rfl,int_eq (wrap_nat (n:=i+1) (by omega)),trivial⟩
        (by simp [under_slV,under]) rfl (by simp [boxU,underL,under,under_slV]) (LoopI.go (m - 1) (by omega) ⟨i+1,_,by omega,by omega,rfl,by rw [hst];rfl⟩)
     · rw [decide_eq_false he] at be
       rw [if_neg he] at hst
       simp only [Sv.cells,Tm.cells,List.cons_append,List.nil_append]
       repeat' first | refine κn ?_ | refine κi ?_ | refine κl ?_ | refine κt ?_ | refine κg ?_ | refine κd (cd _) ?_ | (apply dAl;rfl;rfl;rfl;rfl;exact IsV.ptrM;exact IsH.mkN) | refine κI ?_ | refine κh ?_ | refine κa ?_ | (apply dWB tOk follows;rfl;kernel_rfl;rfl;exact IsH.mkN) | fail
       exact DropQ.go [(0,slV b 3 (opC l)),(2,.ptr 0 7 0 0),(3,.ptr 1 7 0 0),(5,.int .i64 ((i+1:Nat):Int))] ⟨rfl,rfl,rfl,int_eq (wrap_nat (n:=i+1) (by omega)),trivial⟩
        (by simp [under_slV,under]) rfl (by simp [boxU,underL,under,under_slV]) (LoopI.go (m - 1) (by omega) ⟨i+1,_,by omega,by omega,rfl,by rw [hst];rfl⟩)
   · have e : i = 10 := by omega
     have hly:aBin E0 .lss 3 (.int .i64 (i:Int)) (.int .i64 10)=some (.bool false):=lss_f (by omega)
     have e2:min l.length 10=i:=by omega
     rw [e2]
     clear e e2 hM
     have hf:=fun m H=>hfr m H (madeF l i)
     rw [svZero_cells]
     generalize madeF l i=S at hf ⊢
     obtain ⟨sn2,⟨k2,nm2,z2,bk2,kids2⟩,lb2,log2,kb2,keys2⟩:=S
     simp only [Sv.cells,Tm.cells,List.cons_append,List.nil_append] at hf ⊢
     repeat' first | refine κn ?_ | refine κi ?_ | refine κl ?_ | refine κt ?_ | refine κg ?_ | refine κa ?_ | refine κf ?_ | fail
     all_goals exact hf _ _
 · have e : i = l.length := by omega
   have hlx:aBin E0 .lss 3 (.int .i64 (i:Int)) (.int .i64 ((opC l).length:Int))=some (.bool false):=lss_f (by omega)
   have e2:min l.length 10=i:=by omega
   rw [e2]
   clear e e2 hM
   have hf:=fun m H=>hfr m H (madeF l i)
   rw [svZero_cells]
   generalize madeF l i=S at hf ⊢
   obtain ⟨sn2,⟨k2,nm2,z2,bk2,kids2⟩,lb2,log2,kb2,keys2⟩:=S
   simp only [Sv.cells,Tm.cells,List.cons_append,List.nil_append] at hf ⊢
   repeat' first | refine κn ?_ | refine κk ?_ | refine κi ?_ | refine κl ?_ | refine κt ?_ | refine κg ?_ | refine κa ?_ | refine κf ?_ | fail
   all_goals exact hf _ _
end Go.Vm.Seat
