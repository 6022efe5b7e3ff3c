/-
  Proofs of inclusion, as the document makes them.
-/
import Derived.Test.YtpgfeijkfmgnjaaGreatDoorIa
set_option maxHeartbeats 0
set_option maxRecDepth 100000
namespace Go.Vm.Seat
variable {s:Sv} {name:Bs} {key:Tm} {n:Nat}
open Go.Proofs
def ZjP (s:Sv) (name:Bs) (key:Tm):Sv×Int:=if svV s≠0 then (svZero,svV s) else if (Zv name key s.log.length 9999).valid≠0 then (svZero,(Zv name key s.log.length 9999).valid) else if (Zt name s.log.reverse).2.2=true then (svZero,5) else ZcQ s (Zv name key s.log.length 9999)
def ZjR (s:Sv) (name:Bs) (key:Tm):Sv×Int:=if svV s≠0 then (svZero,svV s) else if (Zv name key s.log.length 9999).valid≠0 then (svZero,(Zv name key s.log.length 9999).valid) else if (Zt name s.log.reverse).2.2=false then (svZero,4) else
 if (Zt name s.log.reverse).1.cmp key=0 then (svZero,5) else ZcQ s (Zv name key s.log.length 9999)
def ZjT (s:Sv) (name:Bs):Sv×Int:=if svV s≠0 then (svZero,svV s) else if (Zt name s.log.reverse).2.2=false then (svZero,4) else ZcQ s (Zv name (Zt name s.log.reverse).1 s.log.length 0)
theorem ZlL (s:Sv) (name:Bs) (t:Tm):ZJ [.agg s.cells,.str name,.agg t.cells]=some [.agg s.cells,.str name,.agg t.cells]:=by
 have h:=Ze6 s
 simp only [ZJ] at h ⊢
 rw [ZeH]
 revert h
 generalize frzG (.agg s.cells)=F
 cases F<;>simp
 rintro rfl
 rfl
theorem ZoE (s:Sv) (name:Bs):ZJ [.agg s.cells,.str name]=some [.agg s.cells,.str name]:=by
 have h:=Ze6 s
 simp only [ZJ] at h ⊢
 revert h
 generalize frzG (.agg s.cells)=F
 cases F<;>simp
 rintro rfl
 rfl
theorem Zh6 (e:Int):(e=0∧ZP E0 .neq 30 (.int .i64 e) (.int .i64 0)=some (.bool false))∨(e≠0∧ZP E0 .neq 30 (.int .i64 e) (.int .i64 0)=some (.bool true)):=by
 have h:=YF e
 by_cases he:e=0
 · rw [decide_eq_false (not_not_intro he)] at h
   exact .inl ⟨he,h⟩
 · rw [decide_eq_true he] at h
   exact .inr ⟨he,h⟩
theorem c50 (h:SvOk s) (hl:s.log.length≤32) (hn:name.length≤1000) (hk:key.Ok) (hks:key.size≤700) (hs2:s.key.size≤50):∀ H,CallOk E0 Tryz.prog 50 [.agg s.cells,.str name,.agg key.cells] H (.tup [.agg (ZjP s name key).1.cells,.int .i64 (ZjP s name key).2]) H:=by
 have cv:=c91 h
 have ce:=c92 name key s.log.length 9999
 have cc:=c93 (Zv name key s.log.length 9999) (by simp only [Zv];omega) hk (by simp only [Zv];omega) (by simp [Zv]) (by simp [Zv]) (by simp [Zv]) (by simp [Zv])
 have cf:=c94 h.l h.ls h.ll (name:=name) s.lb
 have ca:=c95 h hl hn hk hks hs2 s.log.length 9999
 have hfz:=ZlL s name key
 have hfr:=fun m H=>Y7 m H
 have hln:=Zb s.log
 have e1:=Zh6 (svV s)
 have e2:=Zh6 (Zv name key s.log.length 9999).valid
 unfold ZjP
 clear h hl hn hk hks hs2
 generalize svV s=V at cv e1 ⊢
 generalize (Zv name key s.log.length 9999).valid=W at cc e2 ⊢
 generalize Zt name s.log.reverse=F at cf ⊢
 generalize ZcQ s (Zv name key s.log.length 9999)=A at ca ⊢
 rw [YH] at ce cc ca
 rw [← hln] at ce cc ca
 obtain ⟨X,n,ok⟩:=F
 obtain ⟨⟨an,⟨ak,anm,az,ab,akids⟩,alb,alog,akb,akeys⟩,ae⟩:=A
 obtain ⟨sn,⟨k,nm,z,b,kz⟩,lb,log,kb,keys⟩:=s
 obtain ⟨k1,nm1,s1,b1,kz1⟩:=X
 obtain ⟨k2,nm2,s2,b2,kz2⟩:=key
 simp only [] at cf hfr ⊢
 simp only [Sv.cells,Tm.cells,List.cons_append,List.nil_append] at cv ce cc cf ca hfz
 rcases e1 with ⟨h1,e1⟩|⟨h1,e1⟩
 · rw [if_neg (not_not_intro h1)]
   rcases e2 with ⟨h2,e2⟩|⟨h2,e2⟩
   · rw [if_neg (not_not_intro h2)]
     cases ok with
     | true =>
       have hf:=fun m H=>hfr m H svZero 5
       rw [if_pos rfl]
       simp only [ZL] at hf ⊢
       simp only [Sv.cells,Tm.cells,List.cons_append,List.nil_append]
       refine Jw tOk fe50.ok (hf 0 hNil) ?_ hfz
       repeat' first|(apply qCl;rfl;rfl;rfl;rfl;first|exact cv _|exact ce _|exact cc _|exact cf _)|refine Ji ?_|refine Jl ?_|refine Jt ?_|refine Jo ?_|fail
       all_goals exact hf _ _
     | false =>
       have hf:=fun m H=>hfr m H ⟨an,.mk ak anm az ab akids,alb,alog,akb,akeys⟩ ae
       rw [if_neg (by simp)]
       simp only [Sv.cells,Tm.cells,List.cons_append,List.nil_append] at hf ⊢
       refine Jw tOk fe50.ok (hf 0 hNil) ?_ hfz
       repeat' first|(apply qCl;rfl;rfl;rfl;rfl;first|exact cv _|exact ce _|exact cc _|exact cf _|exact ca _)|refine Ji ?_|refine Jl ?_|refine Jt ?_|refine Jo ?_|fail
       all_goals exact hf _ _
   · have hf := fun m H => hfr m H svZero W
     rw [if_pos h2]
     simp only [ZL] at hf ⊢
     simp only [Sv.cells,Tm.cells,List.cons_append,List.nil_append]
     refine Jw tOk fe50.ok (hf 0 hNil) ?_ hfz
     repeat' first|(apply qCl;rfl;rfl;rfl;rfl;first|exact cv _|exact ce _|exact cc _)|refine Ji ?_|refine Jl ?_|refine Jo ?_|fail
     all_goals exact hf _ _
 · have hf := fun m H => hfr m H svZero V
   rw [if_pos h1]
   simp only [ZL] at hf ⊢
   simp only [Sv.cells,Tm.cells,List.cons_append,List.nil_append]
   refine Jw tOk fe50.ok (hf 0 hNil) ?_ hfz
   repeat' first|refine Jc (cv _) ?_|refine Ji ?_|refine Jo ?_|fail
   all_goals exact hf _ _
theorem c51 (h:SvOk s) (hl:s.log.length≤32) (hn:name.length≤1000) (hk:key.Ok) (hks:key.size≤700) (hs2:s.key.size≤50):∀ H,CallOk E0 Tryz.prog 51 [.agg s.cells,.str name,.agg key.cells] H (.tup [.agg (ZjR s name key).1.cells,.int .i64 (ZjR s name key).2]) H:=by
 have cv:=c91 h
 have ce:=c92 name key s.log.length 9999
 have cc:=c93 (Zv name key s.log.length 9999) (by simp only [Zv];omega) hk (by simp only [Zv];omega) (by simp [Zv]) (by simp [Zv]) (by simp [Zv]) (by simp [Zv])
 have cf:=c94 h.l h.ls h.ll (name:=name) s.lb
 have hlo:=W6 (name:=name) (S:=900) (by omega) (l:=s.log.reverse) fun u hu=>⟨h.l u (List.mem_reverse.1 hu),h.ls u (List.mem_reverse.1 hu)⟩
 have cq:=c13 hlo.1 hk (by have:=hlo.2.1;omega) (by omega)
 have ca:=c95 h hl hn hk hks hs2 s.log.length 9999
 have hfz:=ZlL s name key
 have hfr:=fun m H=>Y7 m H
 have hln:=Zb s.log
 have e1:=Zh6 (svV s)
 have e2:=Zh6 (Zv name key s.log.length 9999).valid
 unfold ZjR
 clear h hl hn hk hks hs2 hlo
 generalize svV s=V at cv e1 ⊢
 generalize (Zv name key s.log.length 9999).valid=W at cc e2 ⊢
 generalize Zt name s.log.reverse=F at cf cq ⊢
 generalize ZcQ s (Zv name key s.log.length 9999)=A at ca ⊢
 rw [YH] at ce cc ca
 rw [← hln] at ce cc ca
 obtain ⟨X,n,ok⟩:=F
 obtain ⟨⟨an,⟨ak,anm,az,ab,akids⟩,alb,alog,akb,akeys⟩,ae⟩:=A
 obtain ⟨sn,⟨k,nm,z,b,kz⟩,lb,log,kb,keys⟩:=s
 simp only [] at cf cq hfr ⊢
 obtain ⟨D,hD⟩:∃ D,D=decide (X.cmp key=0):=⟨_,rfl⟩
 rw [← hD] at cq
 obtain ⟨k1,nm1,s1,b1,kz1⟩:=X
 obtain ⟨k2,nm2,s2,b2,kz2⟩:=key
 simp only [Sv.cells,Tm.cells,List.cons_append,List.nil_append] at cv ce cc cf cq ca hfz
 rcases e1 with ⟨h1,e1⟩|⟨h1,e1⟩
 · rw [if_neg (not_not_intro h1)]
   rcases e2 with ⟨h2,e2⟩|⟨h2,e2⟩
   · rw [if_neg (not_not_intro h2)]
     cases ok with
     | false =>
       have hf:=fun m H=>hfr m H svZero 4
       rw [if_pos rfl]
       simp only [ZL] at hf ⊢
       simp only [Sv.cells,Tm.cells,List.cons_append,List.nil_append]
       refine Jw tOk fe51.ok (hf 0 hNil) ?_ hfz
       repeat' first|(apply qCl;rfl;rfl;rfl;rfl;first|exact cv _|exact ce _|exact cc _|exact cf _)|refine Ji ?_|refine Jl ?_|refine Jt ?_|refine Jo ?_|fail
       all_goals exact hf _ _
     | true =>
       rw [if_neg (by simp)]
       cases D with
       | true =>
         have hf:=fun m H=>hfr m H svZero 5
         rw [if_pos (of_decide_eq_true hD.symm)]
         simp only [ZL] at hf ⊢
         simp only [Sv.cells,Tm.cells,List.cons_append,List.nil_append]
         refine Jw tOk fe51.ok (hf 0 hNil) ?_ hfz
         repeat' first|(apply qCl;rfl;rfl;rfl;rfl;first|exact cv _|exact ce _|exact cc _|exact cf _|exact cq _)|refine Ji ?_|refine Jl ?_|refine Jt ?_|refine Jo ?_|fail
         all_goals exact hf _ _
       | false =>
         have hf:=fun m H=>hfr m H ⟨an,.mk ak anm az ab akids,alb,alog,akb,akeys⟩ ae
         rw [if_neg (of_decide_eq_false hD.symm)]
         simp only [Sv.cells,Tm.cells,List.cons_append,List.nil_append] at hf ⊢
         refine Jw tOk fe51.ok (hf 0 hNil) ?_ hfz
         repeat' first|(apply qCl;rfl;rfl;rfl;rfl;first|exact cv _|exact ce _|exact cc _|exact cf _|exact cq _|exact ca _)|refine Ji ?_|refine Jl ?_|refine Jt ?_|refine Jo ?_|fail
         all_goals exact hf _ _
   · have hf := fun m H => hfr m H svZero W
     rw [if_pos h2]
     simp only [ZL] at hf ⊢
     simp only [Sv.cells,Tm.cells,List.cons_append,List.nil_append]
     refine Jw tOk fe51.ok (hf 0 hNil) ?_ hfz
     repeat' first|(apply qCl;rfl;rfl;rfl;rfl;first|exact cv _|exact ce _|exact cc _)|refine Ji ?_|refine Jl ?_|refine Jo ?_|fail
     all_goals exact hf _ _
 · have hf := fun m H => hfr m H svZero V
   rw [if_pos h1]
   simp only [ZL] at hf ⊢
   simp only [Sv.cells,Tm.cells,List.cons_append,List.nil_append]
   refine Jw tOk fe51.ok (hf 0 hNil) ?_ hfz
   repeat' first|refine Jc (cv _) ?_|refine Ji ?_|refine Jo ?_|fail
   all_goals exact hf _ _
theorem c52 (h:SvOk s) (hl:s.log.length≤32) (hn:name.length≤1000) (hks:(Zt name s.log.reverse).1.size≤700) (hs2:s.key.size≤50):∀ H,CallOk E0 Tryz.prog 52 [.agg s.cells,.str name] H (.tup [.agg (ZjT s name).1.cells,.int .i64 (ZjT s name).2]) H:=by
 have cv:=c91 h
 have hlo:=W6 (name:=name) (S:=900) (by omega) (l:=s.log.reverse) fun u hu=>⟨h.l u (List.mem_reverse.1 hu),h.ls u (List.mem_reverse.1 hu)⟩
 have ce:=c92 name (Zt name s.log.reverse).1 s.log.length 0
 have cf:=c94 h.l h.ls h.ll (name:=name) s.lb
 have ca:=c95 h hl hn hlo.1 hks hs2 s.log.length 0
 have hfz:=ZoE s name
 have hfr:=fun m H=>Y7 m H
 have hln:=Zb s.log
 have e1:=Zh6 (svV s)
 unfold ZjT
 clear h hl hn hks hs2 hlo
 generalize svV s=V at cv e1 ⊢
 generalize ZcQ s (Zv name (Zt name s.log.reverse).1 s.log.length 0)=A at ca ⊢
 generalize Zt name s.log.reverse=F at ce cf ca ⊢
 rw [YH] at ce ca
 rw [← hln] at ce ca
 obtain ⟨X,n,ok⟩:=F
 obtain ⟨⟨an,⟨ak,anm,az,ab,akids⟩,alb,alog,akb,akeys⟩,ae⟩:=A
 obtain ⟨sn,⟨k,nm,z,b,kz⟩,lb,log,kb,keys⟩:=s
 simp only [] at ce cf ca hfr ⊢
 obtain ⟨k1,nm1,s1,b1,kz1⟩:=X
 simp only [Sv.cells,Tm.cells,List.cons_append,List.nil_append] at cv ce cf ca hfz
 rcases e1 with ⟨h1,e1⟩|⟨h1,e1⟩
 · rw [if_neg (not_not_intro h1)]
   cases ok with
   | false =>
     have hf:=fun m H=>hfr m H svZero 4
     rw [if_pos rfl]
     simp only [ZL] at hf ⊢
     simp only [Sv.cells,Tm.cells,List.cons_append,List.nil_append]
     refine Jw tOk fe52.ok (hf 0 hNil) ?_ hfz
     repeat' first|refine Jc (cv _) ?_|refine Jc (cf _) ?_|refine Ji ?_|refine Jt ?_|refine Jo ?_|fail
     all_goals exact hf _ _
   | true =>
     have hf:=fun m H=>hfr m H ⟨an,.mk ak anm az ab akids,alb,alog,akb,akeys⟩ ae
     rw [if_neg (by simp)]
     simp only [Sv.cells,Tm.cells,List.cons_append,List.nil_append] at hf ⊢
     refine Jw tOk fe52.ok (hf 0 hNil) ?_ hfz
     repeat' first|refine Jc (cv _) ?_|refine Jc (cf _) ?_|refine Ji ?_|refine Jt ?_|refine Jo ?_|refine Jd (ce _) ?_|refine Jd (ca _) ?_|(apply dLn;rfl;rfl;rfl;rfl;rfl)|refine Jh ?_|(apply Wp.drawS tOk follows;kernel_rfl;rfl)|fail
     all_goals exact hf _ _
 · have hf := fun m H => hfr m H svZero V
   rw [if_pos h1]
   simp only [ZL] at hf ⊢
   simp only [Sv.cells,Tm.cells,List.cons_append,List.nil_append]
   refine Jw tOk fe52.ok (hf 0 hNil) ?_ hfz
   repeat' first|refine Jc (cv _) ?_|refine Ji ?_|refine Jo ?_|fail
   all_goals exact hf _ _
def Za4:Bs:=[108,111,103]
structure Mad (n:Nat) (s:Sv):Prop where
 ok:SvOk s
 key:s.key=skT Za4
 len:s.log.length≤n
 sz:∀ t,t∈s.log→t.size≤150
 rk:∀ t,t∈s.log→(Zf t).1.key.size≤10
theorem Zgh {name:Bs}:∀ {l:List Tm},(∀ t,t∈l→(Zf t).1.key.size≤10)→(Zt name l).1.size≤10
 | [],_=>by simp [Zt,Tm.zero,Tm.size,Zx]
 | t :: r, h => by
   simp only [Zt]
   split
   · exact h t (by simp)
   · exact Zgh fun u hu=>h u (by simp [hu])
theorem Mad.ks (h:Mad n s):s.key.size≤50:=by
 rw [h.key]
 have:=(ZaE (name:=Za4) (by decide)).2
 omega
theorem Mad.look (h:Mad n s) (name:Bs):(Zt name s.log.reverse).1.Ok∧(Zt name s.log.reverse).1.size≤10:=
 ⟨(W6 (name:=name) (S:=900) (by omega) (l:=s.log.reverse) fun u hu=>⟨h.ok.l u (List.mem_reverse.1 hu),h.ok.ls u (List.mem_reverse.1 hu)⟩).1,Zgh fun u hu=>h.rk u (List.mem_reverse.1 hu)⟩
theorem Mad.mono {m:Nat} (h:Mad n s) (hm:n≤m):Mad m s:=⟨h.ok,h.key,Nat.le_trans h.len hm,h.sz,h.rk⟩
theorem Zcd (h:Mad n s) (hn:n≤31) {i t:Int} (hk:key.Ok) (hks:key.size≤10) (he:(ZcQ s (Zv name key i t)).2=0):Mad (n+1) (ZcQ s (Zv name key i t)).1:=by
 unfold ZcQ at he ⊢
 split at he; · cases he
 split at he; · cases he
 rename_i hz1 h2
 rw [if_neg hz1,if_neg h2]
 have hz1:((Zv name key i t).issue s.key).2=0:=Classical.not_not.1 hz1
 have hr:=ZgO hz1
 have hio:=Xe (x:=Zv name key i t) (key:=s.key) hk h.ok.k
 have hz:((Zv name key i t).issue s.key).1.size≤150:=by
  have:=hio.2
  have h3:=(ZaE (name:=Za4) (by decide)).2
  rw [h.key] at this ⊢
  simp only [Zv] at this ⊢
  omega
 refine ⟨Zhq h.ok (by have:=h.len;omega) hio.1 (by omega),h.key,?_,?_,?_⟩
 · show (s.log ++ [_]).length ≤ n + 1
   have:=h.len
   simp only [List.length_append,List.length_singleton]
   omega
 · intro u hu
   have hu:u∈s.log++ [((Zv name key i t).issue s.key).1]:=hu
   simp only [List.mem_append,List.mem_singleton] at hu
   rcases hu with hu|rfl
   · exact h.sz u hu
   · exact hz
 · intro u hu
   have hu:u∈s.log++ [((Zv name key i t).issue s.key).1]:=hu
   simp only [List.mem_append,List.mem_singleton] at hu
   rcases hu with hu|rfl
   · exact h.rk u hu
   · rw [hr]
     exact hks
def ZoW:List Bs:=[[111,114,103],[97,46,111,114,103],[98,46,97,46,111,114,103],[110,101,116],[99,46,110,101,116],[97,46,98,46,97,46,111,114,103]]
def Zvk:List Bs:=[[114],[97],[98],[99]]
def Wk (n:Nat):Bs:=(ZoW[n % 6]?).getD []
def Zn1 (n:Nat):Bs:=(Zvk[n % 4]?).getD []
def ZlC (n:Nat):Tm:=pkT (skT (Zn1 n))
theorem UD (n:Nat):(Wk n).length≤100:=by
 unfold Wk
 have h:n % 6<6:=Nat.mod_lt _ (by omega)
 generalize n % 6=m at h
 match m,h with
 |0,_|1,_|2,_|3,_|4,_|5,_=>decide
theorem ZjY (n:Nat):(Zn1 n).length≤100:=by
 unfold Zn1
 have h:n % 4<4:=Nat.mod_lt _ (by omega)
 generalize n % 4=m at h
 match m,h with
 |0,_|1,_|2,_|3,_=>decide
theorem Zic (n:Nat):(ZlC n).Ok∧(ZlC n).size≤10:=by
 have h:=ZaE (name:=Zn1 n) (by have:=ZjY n;omega)
 refine ⟨ok1 (by decide) h.1,?_⟩
 have:(ZlC n).size=(skT (Zn1 n)).size+1:=Zgz
 omega
theorem Zmy:((List.range 256).all fun n=>QQ E0 100 60 ⟨9,[.int .u8 (n:Int)],.str (Wk n)⟩)=true:=by kernel_rfl
theorem c9 (h:n<256):∀ H,CallOk E0 Tryz.prog 9 [.int .u8 (n:Int)] H (.str (Wk n)) H:=
 Xs tOk follows fOk zOk (List.all_eq_true.1 Zmy n (List.mem_range.2 h))
theorem ZnQ:((List.range 256).all fun n=>QQ E0 100 60 ⟨49,[.int .u8 (n:Int)],.agg (ZlC n).cells⟩)=true:=by kernel_rfl
theorem c49 (h:n<256):∀ H,CallOk E0 Tryz.prog 49 [.int .u8 (n:Int)] H (.agg (ZlC n).cells) H:=
 Xs tOk follows fOk zOk (List.all_eq_true.1 ZnQ n (List.mem_range.2 h))
structure Opp where
 kind:Nat
 name:Nat
 key:Nat
variable {o:Opp} {l:List Opp}
def Opp.cells (o:Opp):List PV:=[.int .u8 (o.kind:Int),.int .u8 (o.name:Int),.int .u8 (o.key:Int)]
def Opp.ok (o:Opp):Prop:=o.kind<256∧o.name<256∧o.key<256
def doF (s:Sv) (o:Opp):Sv×Int:=if o.kind % 3=0 then ZjP s (Wk o.name) (ZlC o.key) else if o.kind % 3=1 then ZjR s (Wk o.name) (ZlC o.key) else ZjT s (Wk o.name)
theorem Zmb (h:Mad n s) (hn:n≤31) (o:Opp) (he:(doF s o).2=0):Mad (n+1) (doF s o).1:=by
 have hp:=Zic o.key
 have hl:=h.look (Wk o.name)
 unfold doF at he ⊢
 split at he
 · rename_i hz1
   rw [if_pos hz1]
   unfold ZjP at he ⊢
   split at he; · rename_i h2;exact absurd he h2
   split at he; · rename_i h2;exact absurd he h2
   split at he; · cases he
   rename_i h2 h3 h4
   rw [if_neg h2,if_neg h3,if_neg h4]
   exact Zcd h hn hp.1 hp.2 he
 · rename_i hz1
   rw [if_neg hz1]
   split at he
   · rename_i h2
     rw [if_pos h2]
     unfold ZjR at he ⊢
     split at he; · rename_i h2;exact absurd he h2
     split at he; · rename_i h2;exact absurd he h2
     split at he; · cases he
     split at he; · cases he
     rename_i h2 h3 h4 h5
     rw [if_neg h2,if_neg h3,if_neg h4,if_neg h5]
     exact Zcd h hn hp.1 hp.2 he
   · rename_i h2
     rw [if_neg h2]
     unfold ZjT at he ⊢
     split at he; · rename_i h2;exact absurd he h2
     split at he; · cases he
     rename_i h2 h3
     rw [if_neg h2,if_neg h3]
     exact Zcd h hn hl.1 hl.2 he
theorem Zn0 (k m:Nat) (hm:m≠0):ZP E0 .rem 5 (.int .u8 (k:Int)) (.int .u8 (m:Int))=some (.int .u8 ((k % m:Nat):Int)):=by
 show (if (m:Int)=0 then none else some (PV.int .u8 ((k:Int).tmod (m:Int))))=_
 rw [if_neg (by omega)]
 rfl
theorem ZoC (a b:Nat):ZP E0 .eql 5 (.int .u8 (a:Int)) (.int .u8 (b:Int))=some (.bool (decide (a=b))):=by
 show some (PV.bool ((a:Int)==(b:Int)))=_
 have e:((a:Int)==(b:Int))=decide (a=b):=by
  rw [Bool.eq_iff_iff,beq_iff_eq,decide_eq_true_eq]
  omega
 rw [e]
theorem Zoa (s:Sv) (o:Opp):ZJ [.agg s.cells,.agg o.cells]=some [.agg s.cells,.agg o.cells]:=by
 have h:=Ze6 s
 simp only [ZJ] at h ⊢
 revert h
 generalize frzG (.agg s.cells)=F
 cases F<;>simp
 rintro rfl
 rfl
theorem c22 (h:Mad n s) (hn:n≤31) (ho:o.ok):∀ H,CallOk E0 Tryz.prog 22 [.agg s.cells,.agg o.cells] H (.tup [.agg (doF s o).1.cells,.int .i64 (doF s o).2]) H:=by
 have hp:=Zic o.key
 have hsl:=UD o.name
 have hl:=h.look (Wk o.name)
 have cs:=c9 ho.2.1
 have cp:=c49 ho.2.2
 have ca:=c50 h.ok (by have:=h.len;omega) (name:=Wk o.name) (by omega) hp.1 (by omega) h.ks
 have cb:=c51 h.ok (by have:=h.len;omega) (name:=Wk o.name) (by omega) hp.1 (by omega) h.ks
 have cc:=c52 h.ok (by have:=h.len;omega) (name:=Wk o.name) (by omega) (by omega) h.ks
 have hfz:=Zoa s o
 have hr:=Zn0 o.kind 3 (by omega)
 have q0:=ZoC (o.kind % 3) 0
 have q1:=ZoC (o.kind % 3) 1
 have hfr:=fun m H=>Y7 m H
 unfold doF
 clear h hn ho hp hsl hl
 generalize o.kind % 3=R at hr q0 q1 ⊢
 generalize Wk o.name=NM at cs ca cb cc ⊢
 generalize ZlC o.key=KT at cp ca cb ⊢
 generalize ZjP s NM KT=A at ca ⊢
 generalize ZjR s NM KT=B at cb ⊢
 generalize ZjT s NM=C at cc ⊢
 obtain ⟨sn,⟨k,nm,z,b,kz⟩,lb,log,kb,keys⟩:=s
 obtain ⟨okind,oname,okey⟩:=o
 obtain ⟨k2,nm2,s2,b2,kz2⟩:=KT
 simp only [Sv.cells,Opp.cells,Tm.cells,List.cons_append,List.nil_append] at cs cp ca cb cc hfz hr
 by_cases hz0:R=0
 · rw [decide_eq_true hz0] at q0
   rw [if_pos hz0]
   obtain ⟨⟨an,⟨ak,anm,az,ab,akids⟩,alb,alog,akb,akeys⟩,ae⟩:=A
   have hf:=fun m H=>hfr m H ⟨an,.mk ak anm az ab akids,alb,alog,akb,akeys⟩ ae
   simp only [Sv.cells,Tm.cells,List.cons_append,List.nil_append,Opp.cells] at ca hf ⊢
   refine Zm (own:=(fun d=>[30008].any (Nat.beq d))) tOk fe22.ok hfz (hf 0 hNil) ?_
   refine Wp.seq ?_
   repeat' first|refine Jc (ca _) ?_|refine Ji ?_|refine Jt ?_|refine Jo ?_|refine Jd (cs _) ?_|refine Jd (cp _) ?_|(apply dAl;rfl;rfl;rfl;rfl;exact IsV.ptrM;exact IsH.mkN)|refine Jh ?_|(apply dWB tOk follows;rfl;kernel_rfl;rfl;exact IsH.mkN)|fail
   all_goals exact hf _ _
 · rw [decide_eq_false hz0] at q0
   rw [if_neg hz0]
   by_cases hz1:R=1
   · rw [decide_eq_true hz1] at q1
     rw [if_pos hz1]
     obtain ⟨⟨an,⟨ak,anm,az,ab,akids⟩,alb,alog,akb,akeys⟩,ae⟩:=B
     have hf:=fun m H=>hfr m H ⟨an,.mk ak anm az ab akids,alb,alog,akb,akeys⟩ ae
     simp only [Sv.cells,Tm.cells,List.cons_append,List.nil_append,Opp.cells] at cb hf ⊢
     refine Zm (own:=(fun d=>[30008].any (Nat.beq d))) tOk fe22.ok hfz (hf 0 hNil) ?_
     refine Wp.seq ?_
     repeat' first|refine Jc (cb _) ?_|refine Ji ?_|refine Jt ?_|refine Jo ?_|refine Jd (cs _) ?_|refine Jd (cp _) ?_|(apply dAl;rfl;rfl;rfl;rfl;exact IsV.ptrM;exact IsH.mkN)|refine Jh ?_|(apply dWB tOk follows;rfl;kernel_rfl;rfl;exact IsH.mkN)|fail
     all_goals exact hf _ _
   · rw [decide_eq_false hz1] at q1
     rw [if_neg hz1]
     obtain ⟨⟨an,⟨ak,anm,az,ab,akids⟩,alb,alog,akb,akeys⟩,ae⟩:=C
     have hf:=fun m H=>hfr m H ⟨an,.mk ak anm az ab akids,alb,alog,akb,akeys⟩ ae
     simp only [Sv.cells,Tm.cells,List.cons_append,List.nil_append,Opp.cells] at cc hf ⊢
     refine Zm (own:=(fun d=>[30008].any (Nat.beq d))) tOk fe22.ok hfz (hf 0 hNil) ?_
     refine Wp.seq ?_
     repeat' first|refine Jc (cc _) ?_|refine Ji ?_|refine Jt ?_|refine Jo ?_|refine Jd (cs _) ?_|refine Jd (cp _) ?_|(apply dAl;rfl;rfl;rfl;rfl;exact IsV.ptrM;exact IsH.mkN)|refine Jh ?_|(apply dWB tOk follows;rfl;kernel_rfl;rfl;exact IsH.mkN)|fail
     all_goals exact hf _ _
theorem ZpJ (e:Int):ZP E0 .eql 30 (.int .i64 e) (.int .i64 0)=some (.bool (decide (e=0))):=by
 show some (PV.bool (e==0))=_
 by_cases h:e=0<;>simp [h]
def opC (l:List Opp):List (List PV):=l.map Opp.cells
theorem Zeo (l:List Opp):(opC l).length=l.length:=by simp [opC]
theorem Zng {i:Nat} (h:l[i]? = some o):(opC l)[i]? = some o.cells:=by simp [opC,h]
def ZdY (s:Sv) (o:Opp):Sv:=if (doF s o).2=0 then (doF s o).1 else s
def Ys (l:List Opp):Nat→Sv
 |0=>WW Za4
 | i + 1 => match l[i]? with
   | some o=>ZdY (Ys l i) o
   | none=>Ys l i
theorem ZmU:Mad 0 (WW Za4):=
 ⟨⟨by decide,(ZaE (name:=Za4) (by decide)).1,by have:=(ZaE (name:=Za4) (by decide)).2;show (skT Za4).size≤900;omega,by simp [WW],by simp [WW],by simp [WW],by simp [WW,Us],by simp [WW]⟩,rfl,by simp [WW],by simp [WW],by simp [WW]⟩
theorem U9 (l:List Opp):∀ {i:Nat},i≤31→Mad i (Ys l i)
 |0,_=>ZmU
 | i + 1, h => by
   have ih:=U9 l (i:=i) (by omega)
   simp only [Ys]
   split
   · unfold ZdY
     split
     · rename_i he
       exact Zmb ih (by omega) _ he
     · exact ih.mono (by omega)
   · exact ih.mono (by omega)
theorem Zk9 (m:Nat) (H:Heap) (s:Sv):frz3 m H (.agg s.cells)=some (.agg s.cells):=Zis m H s
theorem UW:Xq Za4=true:=by decide
theorem c7 (ho:∀ o,o∈l→o.ok) (b:Bool):∀ H,CallOk E0 Tryz.prog 7 [slV b 3 (opC l)] H (.agg (Ys l (min l.length 10)).cells) H:=by
 have hfr:=fun m H=>Zk9 m H
 have cn:=c21 Za4 (by decide)
 rw [if_pos UW,if_pos UW] at cn
 have hz1:=Zeo l
 refine Zm (own:=(fun d=>[30010].any (Nat.beq d))) tOk fe7.ok (by simp only [ZJ,Yy]) (hfr 0 hNil _) ?_
 refine Wp.seq ?_
 have e0:Ys l 0=WW Za4:=rfl
 have hz:=ZL
 have cn':=cn
 clear cn
 obtain ⟨S0,hS0⟩:∃ S0,S0=WW Za4:=⟨_,rfl⟩
 rw [← hS0] at cn' e0
 obtain ⟨sn,⟨k,nm,z,bk,kz⟩,lb,log,kb,keys⟩:=S0
 simp only [Sv.cells,Tm.cells,List.cons_append,List.nil_append] at cn'
 repeat' first|refine Jc (cn' _) ?_|refine Jo ?_|fail
 refine Wp.while (fun m tm H=>∃ (i:Nat) (base:TM),i+m=10∧i≤l.length∧tm=ovr base [(0,slV b 3 (opC l)),(2,.ptr 0 7 0 0),(3,.ptr 1 7 0 0),(5,.int .i64 (i:Int))]∧H=⟨[.cells 7 [svZero.cells],.cells 7 [(Ys l i).cells]],0,[],0⟩)
  (fun m tm H hI=>Wp.drop ?_) 10 _ _ ⟨0,_,by omega,by omega,Zi ⟨rfl,rfl,rfl,rfl,trivial⟩,by rw [e0,ZL];rfl⟩
 clear cn' e0 hS0
 obtain ⟨i,base,hi,hil,rfl,rfl⟩:=hI
 have hM:=U9 l (i:=i) (by omega)
 by_cases hlt:i<l.length
 · have hlx : ZP E0 .lss 3 (.int .i64 (i : Int)) (.int .i64 ((opC l).length : Int)) = some (.bool true) := X3 (by omega)
   by_cases h10:i<10
   · have hly : ZP E0 .lss 3 (.int .i64 (i : Int)) (.int .i64 10) = some (.bool true) := X3 (by omega)
     obtain ⟨o,hoi⟩:∃ o,l[i]? = some o:=⟨l[i],by simp⟩
     have cd:=c22 hM (by omega) (ho o (List.mem_of_getElem? hoi))
     have hj:=Zng hoi
     have hst:Ys l (i+1)=ZdY (Ys l i) o:=by simp only [Ys,hoi]
     unfold ZdY at hst
     have be:=ZpJ (doF (Ys l i) o).2
     rw [ZL]
     generalize doF (Ys l i) o=D at cd hst be
     generalize Ys l i=S at cd hst
     obtain ⟨⟨an,⟨ak,anm,az,ab,akids⟩,alb,alog,akb,akeys⟩,ae⟩:=D
     obtain ⟨sn2,⟨k2,nm2,z2,bk2,kz2⟩,lb2,log2,kb2,keys2⟩:=S
     obtain ⟨ok,on,oy⟩:=o
     simp only [Sv.cells,Opp.cells,Tm.cells,List.cons_append,List.nil_append] at cd hj
     by_cases he:ae=0
     · rw [decide_eq_true he] at be
       rw [if_pos he] at hst
       simp only [Sv.cells,Tm.cells,List.cons_append,List.nil_append]
       repeat' first|refine Ji ?_|refine Jl ?_|refine Jt ?_|refine Jo ?_|refine Jd (cd _) ?_|(apply dAl;rfl;rfl;rfl;rfl;exact IsV.ptrM;exact IsH.mkN)|refine JI ?_|refine Jh ?_|(apply dWB tOk follows;rfl;kernel_rfl;rfl;exact IsH.mkN)|fail
       exact DropQ.go [(0,slV b 3 (opC l)),(2,.ptr 0 7 0 0),(3,.ptr 1 7 0 0),(5,.int .i64 ((i+1:Nat):Int))] ⟨rfl,rfl,rfl,Zj (Zg (n:=i+1) (by omega)),trivial⟩
        (by simp [Zl,under]) rfl (by simp [Yw,ZI,under,Zl]) (LoopI.go (m-1) (by omega) ⟨i+1,_,by omega,by omega,rfl,by rw [hst];rfl⟩)
     · rw [decide_eq_false he] at be
       rw [if_neg he] at hst
       simp only [Sv.cells,Tm.cells,List.cons_append,List.nil_append]
       repeat' first|refine Ji ?_|refine Jl ?_|refine Jt ?_|refine Jo ?_|refine Jd (cd _) ?_|(apply dAl;rfl;rfl;rfl;rfl;exact IsV.ptrM;exact IsH.mkN)|refine JI ?_|refine Jh ?_|(apply dWB tOk follows;rfl;kernel_rfl;rfl;exact IsH.mkN)|fail
       exact DropQ.go [(0,slV b 3 (opC l)),(2,.ptr 0 7 0 0),(3,.ptr 1 7 0 0),(5,.int .i64 ((i+1:Nat):Int))] ⟨rfl,rfl,rfl,Zj (Zg (n:=i+1) (by omega)),trivial⟩
        (by simp [Zl,under]) rfl (by simp [Yw,ZI,under,Zl]) (LoopI.go (m-1) (by omega) ⟨i+1,_,by omega,by omega,rfl,by rw [hst];rfl⟩)
   · have e : i = 10 := by omega
     have hly:ZP E0 .lss 3 (.int .i64 (i:Int)) (.int .i64 10)=some (.bool false):=Xo (by omega)
     have e2:min l.length 10=i:=by omega
     rw [e2]
     clear e e2 hM
     have hf:=fun m H=>hfr m H (Ys l i)
     rw [ZL]
     generalize Ys l i=S at hf ⊢
     obtain ⟨sn2,⟨k2,nm2,z2,bk2,kz2⟩,lb2,log2,kb2,keys2⟩:=S
     simp only [Sv.cells,Tm.cells,List.cons_append,List.nil_append] at hf ⊢
     repeat' first|refine Ji ?_|refine Jl ?_|refine Jt ?_|refine Jo ?_|fail
     all_goals exact hf _ _
 · have e : i = l.length := by omega
   have hlx:ZP E0 .lss 3 (.int .i64 (i:Int)) (.int .i64 ((opC l).length:Int))=some (.bool false):=Xo (by omega)
   have e2:min l.length 10=i:=by omega
   rw [e2]
   clear e e2 hM
   have hf:=fun m H=>hfr m H (Ys l i)
   rw [ZL]
   generalize Ys l i=S at hf ⊢
   obtain ⟨sn2,⟨k2,nm2,z2,bk2,kz2⟩,lb2,log2,kb2,keys2⟩:=S
   simp only [Sv.cells,Tm.cells,List.cons_append,List.nil_append] at hf ⊢
   repeat' first|refine Jk ?_|refine Ji ?_|refine Jl ?_|refine Jt ?_|refine Jo ?_|fail
   all_goals exact hf _ _
def WX:Nat→List Tm→Nat→List Tm
 |0,_,_=>[]
 |f+1,l,i=>if l.length=1 then [] else if i<Zd l.length then WX f (l.take (Zd l.length)) i++ [Zr 33 (l.drop (Zd l.length))] else WX f (l.drop (Zd l.length)) (i-Zd l.length)++ [Zr 33 (l.take (Zd l.length))]
theorem QZ:∀ (f:Nat) (l:List Tm) (i:Nat),(WX f l i).length≤f
 |0,_,_=>by simp [WX]
 | f + 1, l, i => by
   have hz1:=QZ f (l.take (Zd l.length)) i
   have h2:=QZ f (l.drop (Zd l.length)) (i-Zd l.length)
   simp only [WX]
   split
   · simp
   · split<;>simp only [List.length_append,List.length_singleton]<;>omega
theorem Zep {S:Nat}:∀ (f:Nat) {l:List Tm} (i:Nat),l.length≤12→(∀ t,t∈l→t.Ok∧t.size≤S)→∀ t,t∈WX f l i→t.Ok∧t.size≤12*(S+11)
 |0,l,i,_,_,t,ht=>by simp [WX] at ht
 | f + 1, l, i, hl, h, t, ht => by
   have key:∀ m:List Tm,m.length≤12→(∀ t,t∈m→t.Ok∧t.size≤S)→(Zr 33 m).Ok∧(Zr 33 m).size≤12*(S+11):=fun m hm hh=>by
    obtain ⟨a,b⟩:=Xw (S:=S) 32 (l:=m) (by omega) hh
    have:=Nat.mul_le_mul_right (S+11) (show max m.length 1≤12 by omega)
    exact ⟨a,by show (Zr (32+1) m).size≤_;omega⟩
   simp only [WX] at ht
   split at ht
   · simp at ht
   · split at ht
     · simp only [List.mem_append, List.mem_singleton] at ht
       rcases ht with ht|rfl
       · exact Zep f i (by rw [List.length_take];omega) (fun t ht=>h t (List.mem_of_mem_take ht)) t ht
       · exact key _ (by rw [List.length_drop];omega) fun t ht=>h t (List.mem_of_mem_drop ht)
     · simp only [List.mem_append, List.mem_singleton] at ht
       rcases ht with ht|rfl
       · exact Zep f _ (by rw [List.length_drop];omega) (fun t ht=>h t (List.mem_of_mem_drop ht)) t ht
       · exact key _ (by rw [List.length_take];omega) fun t ht=>h t (List.mem_of_mem_take ht)
