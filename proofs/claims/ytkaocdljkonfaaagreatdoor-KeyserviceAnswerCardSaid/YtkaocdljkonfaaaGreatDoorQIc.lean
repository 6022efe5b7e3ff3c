/-
  The changes of a service, as the document makes them. The services behind changes, as the document makes them.
-/
import Derived.Test.YtkaocdljkonfaaaGreatDoorQIa
set_option maxHeartbeats 64000000
set_option maxRecDepth 100000
namespace Go.Vm.Seat
variable {s:Sv} {name:Bs} {key:Tm} {n:Nat}
open Go.Proofs
def Zi2 (s:Sv) (name:Bs) (key:Tm):Sv×Int:=if svV s≠0 then (svZero,svV s) else if (ZA name key s.log.length 9999).valid≠0 then (svZero,(ZA name key s.log.length 9999).valid) else if (Zs name s.log.reverse).2.2=true then (svZero,5) else ZdQ s (ZA name key s.log.length 9999)
def Zjc (s:Sv) (name:Bs) (key:Tm):Sv×Int:=if svV s≠0 then (svZero,svV s) else if (ZA name key s.log.length 9999).valid≠0 then (svZero,(ZA name key s.log.length 9999).valid) else if (Zs name s.log.reverse).2.2=false then (svZero,4) else
 if (Zs name s.log.reverse).1.cmp key=0 then (svZero,5) else ZdQ s (ZA name key s.log.length 9999)
def ZiT (s:Sv) (name:Bs):Sv×Int:=if svV s≠0 then (svZero,svV s) else if (Zs name s.log.reverse).2.2=false then (svZero,4) else ZdQ s (ZA name (Zs name s.log.reverse).1 s.log.length 0)
theorem Zkx (s:Sv) (name:Bs) (t:Tm):ZZ [.agg s.cells,.str name,.agg t.cells]=some [.agg s.cells,.str name,.agg t.cells]:=by
 have h:=Zcw s
 simp only [ZZ] at h ⊢
 rw [Zd5]
 revert h
 generalize frzG (.agg s.cells)=F
 cases F<;>simp
 rintro rfl
 rfl
theorem Zl5 (s:Sv) (name:Bs):ZZ [.agg s.cells,.str name]=some [.agg s.cells,.str name]:=by
 have h:=Zcw s
 simp only [ZZ] at h ⊢
 revert h
 generalize frzG (.agg s.cells)=F
 cases F<;>simp
 rintro rfl
 rfl
theorem Zij (e:Int):(e=0∧ZQ E0 .neq 32 (.int .i64 e) (.int .i64 0)=some (.bool false))∨(e≠0∧ZQ E0 .neq 32 (.int .i64 e) (.int .i64 0)=some (.bool true)):=by
 have h:=YE e
 by_cases he:e=0
 · rw [decide_eq_false (not_not_intro he)] at h
   exact .inl ⟨he,h⟩
 · rw [decide_eq_true he] at h
   exact .inr ⟨he,h⟩
theorem c27 (h:SvOk s) (hl:s.log.length≤32) (hn:name.length≤1000) (hk:key.Ok) (hks:key.size≤700) (hs2:s.key.size≤50):∀ H,CallOk E0 Tryz.prog 27 [.agg s.cells,.str name,.agg key.cells] H (.tup [.agg (Zi2 s name key).1.cells,.int .i64 (Zi2 s name key).2]) H:=by
 have cv:=c14 h
 have ce:=c68 name key s.log.length 9999
 have cc:=c69 (ZA name key s.log.length 9999) (by simp only [ZA];omega) hk (by simp only [ZA];omega) (by simp [ZA]) (by simp [ZA]) (by simp [ZA]) (by simp [ZA])
 have cf:=c53 h.l h.ls h.ll (name:=name) s.lb
 have ca:=c70 h hl hn hk hks hs2 s.log.length 9999
 have hfz:=Zkx s name key
 have hfr:=fun m H=>XR m H
 have hln:=Zb s.log
 have e1:=Zij (svV s)
 have e2:=Zij (ZA name key s.log.length 9999).valid
 unfold Zi2
 clear h hl hn hk hks hs2
 generalize svV s=V at cv e1 ⊢
 generalize (ZA name key s.log.length 9999).valid=W at cc e2 ⊢
 generalize Zs name s.log.reverse=F at cf ⊢
 generalize ZdQ s (ZA name key s.log.length 9999)=A at ca ⊢
 rw [YA] at ce cc ca
 rw [← hln] at ce cc ca
 obtain ⟨X,n,ok⟩:=F
 obtain ⟨⟨an,⟨ak,anm,az,ab,akids⟩,alb,alog,akb,akeys⟩,ae⟩:=A
 obtain ⟨sn,⟨k,nm,z,b,kids⟩,lb,log,kb,keys⟩:=s
 obtain ⟨k1,nm1,s1,b1,kids1⟩:=X
 obtain ⟨k2,nm2,s2,b2,kids2⟩:=key
 simp only [] at cf hfr ⊢
 simp only [Sv.cells,Tm.cells,List.cons_append,List.nil_append] at cv ce cc cf ca hfz
 rcases e1 with ⟨h1,e1⟩|⟨h1,e1⟩
 · rw [if_neg (not_not_intro h1)]
   rcases e2 with ⟨h2,e2⟩|⟨h2,e2⟩
   · rw [if_neg (not_not_intro h2)]
     cases ok with
     | true =>
       have hf:=fun m H=>hfr m H svZero 5
       rw [if_pos rfl]
       simp only [ZM] at hf ⊢
       simp only [Sv.cells,Tm.cells,List.cons_append,List.nil_append]
       refine Jw tOk fe27.ok (hf 0 hNil) ?_ hfz
       repeat' first|(apply qCl;rfl;rfl;rfl;rfl;first|exact cv _|exact ce _|exact cc _|exact cf _)|refine Ji ?_|refine Jl ?_|refine Jt ?_|refine Jo ?_|fail
       all_goals exact hf _ _
     | false =>
       have hf:=fun m H=>hfr m H ⟨an,.mk ak anm az ab akids,alb,alog,akb,akeys⟩ ae
       rw [if_neg (by simp)]
       simp only [Sv.cells,Tm.cells,List.cons_append,List.nil_append] at hf ⊢
       refine Jw tOk fe27.ok (hf 0 hNil) ?_ hfz
       repeat' first|(apply qCl;rfl;rfl;rfl;rfl;first|exact cv _|exact ce _|exact cc _|exact cf _|exact ca _)|refine Ji ?_|refine Jl ?_|refine Jt ?_|refine Jo ?_|fail
       all_goals exact hf _ _
   · have hf := fun m H => hfr m H svZero W
     rw [if_pos h2]
     simp only [ZM] at hf ⊢
     simp only [Sv.cells,Tm.cells,List.cons_append,List.nil_append]
     refine Jw tOk fe27.ok (hf 0 hNil) ?_ hfz
     repeat' first|(apply qCl;rfl;rfl;rfl;rfl;first|exact cv _|exact ce _|exact cc _)|refine Ji ?_|refine Jl ?_|refine Jo ?_|fail
     all_goals exact hf _ _
 · have hf := fun m H => hfr m H svZero V
   rw [if_pos h1]
   simp only [ZM] at hf ⊢
   simp only [Sv.cells,Tm.cells,List.cons_append,List.nil_append]
   refine Jw tOk fe27.ok (hf 0 hNil) ?_ hfz
   repeat' first|refine Jc (cv _) ?_|refine Ji ?_|refine Jo ?_|fail
   all_goals exact hf _ _
theorem c29 (h:SvOk s) (hl:s.log.length≤32) (hn:name.length≤1000) (hk:key.Ok) (hks:key.size≤700) (hs2:s.key.size≤50):∀ H,CallOk E0 Tryz.prog 29 [.agg s.cells,.str name,.agg key.cells] H (.tup [.agg (Zjc s name key).1.cells,.int .i64 (Zjc s name key).2]) H:=by
 have cv:=c14 h
 have ce:=c68 name key s.log.length 9999
 have cc:=c69 (ZA name key s.log.length 9999) (by simp only [ZA];omega) hk (by simp only [ZA];omega) (by simp [ZA]) (by simp [ZA]) (by simp [ZA]) (by simp [ZA])
 have cf:=c53 h.l h.ls h.ll (name:=name) s.lb
 have hlo:=VD (name:=name) (S:=900) (by omega) (l:=s.log.reverse) fun u hu=>⟨h.l u (List.mem_reverse.1 hu),h.ls u (List.mem_reverse.1 hu)⟩
 have cq:=c23 hlo.1 hk (by have:=hlo.2.1;omega) (by omega)
 have ca:=c70 h hl hn hk hks hs2 s.log.length 9999
 have hfz:=Zkx s name key
 have hfr:=fun m H=>XR m H
 have hln:=Zb s.log
 have e1:=Zij (svV s)
 have e2:=Zij (ZA name key s.log.length 9999).valid
 unfold Zjc
 clear h hl hn hk hks hs2 hlo
 generalize svV s=V at cv e1 ⊢
 generalize (ZA name key s.log.length 9999).valid=W at cc e2 ⊢
 generalize Zs name s.log.reverse=F at cf cq ⊢
 generalize ZdQ s (ZA name key s.log.length 9999)=A at ca ⊢
 rw [YA] at ce cc ca
 rw [← hln] at ce cc ca
 obtain ⟨X,n,ok⟩:=F
 obtain ⟨⟨an,⟨ak,anm,az,ab,akids⟩,alb,alog,akb,akeys⟩,ae⟩:=A
 obtain ⟨sn,⟨k,nm,z,b,kids⟩,lb,log,kb,keys⟩:=s
 simp only [] at cf cq hfr ⊢
 obtain ⟨D,hD⟩:∃ D,D=decide (X.cmp key=0):=⟨_,rfl⟩
 rw [← hD] at cq
 obtain ⟨k1,nm1,s1,b1,kids1⟩:=X
 obtain ⟨k2,nm2,s2,b2,kids2⟩:=key
 simp only [Sv.cells,Tm.cells,List.cons_append,List.nil_append] at cv ce cc cf cq ca hfz
 rcases e1 with ⟨h1,e1⟩|⟨h1,e1⟩
 · rw [if_neg (not_not_intro h1)]
   rcases e2 with ⟨h2,e2⟩|⟨h2,e2⟩
   · rw [if_neg (not_not_intro h2)]
     cases ok with
     | false =>
       have hf:=fun m H=>hfr m H svZero 4
       rw [if_pos rfl]
       simp only [ZM] at hf ⊢
       simp only [Sv.cells,Tm.cells,List.cons_append,List.nil_append]
       refine Jw tOk fe29.ok (hf 0 hNil) ?_ hfz
       repeat' first|(apply qCl;rfl;rfl;rfl;rfl;first|exact cv _|exact ce _|exact cc _|exact cf _)|refine Ji ?_|refine Jl ?_|refine Jt ?_|refine Jo ?_|fail
       all_goals exact hf _ _
     | true =>
       rw [if_neg (by simp)]
       cases D with
       | true =>
         have hf:=fun m H=>hfr m H svZero 5
         rw [if_pos (of_decide_eq_true hD.symm)]
         simp only [ZM] at hf ⊢
         simp only [Sv.cells,Tm.cells,List.cons_append,List.nil_append]
         refine Jw tOk fe29.ok (hf 0 hNil) ?_ hfz
         repeat' first|(apply qCl;rfl;rfl;rfl;rfl;first|exact cv _|exact ce _|exact cc _|exact cf _|exact cq _)|refine Ji ?_|refine Jl ?_|refine Jt ?_|refine Jo ?_|fail
         all_goals exact hf _ _
       | false =>
         have hf:=fun m H=>hfr m H ⟨an,.mk ak anm az ab akids,alb,alog,akb,akeys⟩ ae
         rw [if_neg (of_decide_eq_false hD.symm)]
         simp only [Sv.cells,Tm.cells,List.cons_append,List.nil_append] at hf ⊢
         refine Jw tOk fe29.ok (hf 0 hNil) ?_ hfz
         repeat' first|(apply qCl;rfl;rfl;rfl;rfl;first|exact cv _|exact ce _|exact cc _|exact cf _|exact cq _|exact ca _)|refine Ji ?_|refine Jl ?_|refine Jt ?_|refine Jo ?_|fail
         all_goals exact hf _ _
   · have hf := fun m H => hfr m H svZero W
     rw [if_pos h2]
     simp only [ZM] at hf ⊢
     simp only [Sv.cells,Tm.cells,List.cons_append,List.nil_append]
     refine Jw tOk fe29.ok (hf 0 hNil) ?_ hfz
     repeat' first|(apply qCl;rfl;rfl;rfl;rfl;first|exact cv _|exact ce _|exact cc _)|refine Ji ?_|refine Jl ?_|refine Jo ?_|fail
     all_goals exact hf _ _
 · have hf := fun m H => hfr m H svZero V
   rw [if_pos h1]
   simp only [ZM] at hf ⊢
   simp only [Sv.cells,Tm.cells,List.cons_append,List.nil_append]
   refine Jw tOk fe29.ok (hf 0 hNil) ?_ hfz
   repeat' first|refine Jc (cv _) ?_|refine Ji ?_|refine Jo ?_|fail
   all_goals exact hf _ _
theorem c31 (h:SvOk s) (hl:s.log.length≤32) (hn:name.length≤1000) (hks:(Zs name s.log.reverse).1.size≤700) (hs2:s.key.size≤50):∀ H,CallOk E0 Tryz.prog 31 [.agg s.cells,.str name] H (.tup [.agg (ZiT s name).1.cells,.int .i64 (ZiT s name).2]) H:=by
 have cv:=c14 h
 have hlo:=VD (name:=name) (S:=900) (by omega) (l:=s.log.reverse) fun u hu=>⟨h.l u (List.mem_reverse.1 hu),h.ls u (List.mem_reverse.1 hu)⟩
 have ce:=c68 name (Zs name s.log.reverse).1 s.log.length 0
 have cf:=c53 h.l h.ls h.ll (name:=name) s.lb
 have ca:=c70 h hl hn hlo.1 hks hs2 s.log.length 0
 have hfz:=Zl5 s name
 have hfr:=fun m H=>XR m H
 have hln:=Zb s.log
 have e1:=Zij (svV s)
 unfold ZiT
 clear h hl hn hks hs2 hlo
 generalize svV s=V at cv e1 ⊢
 generalize ZdQ s (ZA name (Zs name s.log.reverse).1 s.log.length 0)=A at ca ⊢
 generalize Zs name s.log.reverse=F at ce cf ca ⊢
 rw [YA] at ce ca
 rw [← hln] at ce ca
 obtain ⟨X,n,ok⟩:=F
 obtain ⟨⟨an,⟨ak,anm,az,ab,akids⟩,alb,alog,akb,akeys⟩,ae⟩:=A
 obtain ⟨sn,⟨k,nm,z,b,kids⟩,lb,log,kb,keys⟩:=s
 simp only [] at ce cf ca hfr ⊢
 obtain ⟨k1,nm1,s1,b1,kids1⟩:=X
 simp only [Sv.cells,Tm.cells,List.cons_append,List.nil_append] at cv ce cf ca hfz
 rcases e1 with ⟨h1,e1⟩|⟨h1,e1⟩
 · rw [if_neg (not_not_intro h1)]
   cases ok with
   | false =>
     have hf:=fun m H=>hfr m H svZero 4
     rw [if_pos rfl]
     simp only [ZM] at hf ⊢
     simp only [Sv.cells,Tm.cells,List.cons_append,List.nil_append]
     refine Jw tOk fe31.ok (hf 0 hNil) ?_ hfz
     repeat' first|refine Jc (cv _) ?_|refine Jc (cf _) ?_|refine Ji ?_|refine Jt ?_|refine Jo ?_|fail
     all_goals exact hf _ _
   | true =>
     have hf:=fun m H=>hfr m H ⟨an,.mk ak anm az ab akids,alb,alog,akb,akeys⟩ ae
     rw [if_neg (by simp)]
     simp only [Sv.cells,Tm.cells,List.cons_append,List.nil_append] at hf ⊢
     refine Jw tOk fe31.ok (hf 0 hNil) ?_ hfz
     repeat' first|refine Jc (cv _) ?_|refine Jc (cf _) ?_|refine Ji ?_|refine Jt ?_|refine Jo ?_|refine Jd (ce _) ?_|refine Jd (ca _) ?_|(apply dLn;rfl;rfl;rfl;rfl;rfl)|refine Jh ?_|(apply Wp.drawS tOk follows;kernel_rfl;rfl)|fail
     all_goals exact hf _ _
 · have hf := fun m H => hfr m H svZero V
   rw [if_pos h1]
   simp only [ZM] at hf ⊢
   simp only [Sv.cells,Tm.cells,List.cons_append,List.nil_append]
   refine Jw tOk fe31.ok (hf 0 hNil) ?_ hfz
   repeat' first|refine Jc (cv _) ?_|refine Ji ?_|refine Jo ?_|fail
   all_goals exact hf _ _
open Go.Proofs
def Zgf:Bs:=[108,111,103]
structure Mad (n:Nat) (s:Sv):Prop where
 ok:SvOk s
 key:s.key=skT Zgf
 len:s.log.length≤n
 sz:∀ t,t∈s.log→t.size≤150
 rk:∀ t,t∈s.log→(Zj t).1.key.size≤10
theorem Zek {name:Bs}:∀ {l:List Tm},(∀ t,t∈l→(Zj t).1.key.size≤10)→(Zs name l).1.size≤10
 | [],_=>by simp [Zs,Tm.zero,Tm.size,Zz]
 | t :: r, h => by
   simp only [Zs]
   split
   · exact h t (by simp)
   · exact Zek fun u hu=>h u (by simp [hu])
theorem Mad.ks (h:Mad n s):s.key.size≤50:=by
 rw [h.key]
 have:=(Zai (name:=Zgf) (by decide)).2
 omega
theorem Mad.look (h:Mad n s) (name:Bs):(Zs name s.log.reverse).1.Ok∧(Zs name s.log.reverse).1.size≤10:=
 ⟨(VD (name:=name) (S:=900) (by omega) (l:=s.log.reverse) fun u hu=>⟨h.ok.l u (List.mem_reverse.1 hu),h.ok.ls u (List.mem_reverse.1 hu)⟩).1,Zek fun u hu=>h.rk u (List.mem_reverse.1 hu)⟩
theorem Mad.mono {m:Nat} (h:Mad n s) (hm:n≤m):Mad m s:=⟨h.ok,h.key,Nat.le_trans h.len hm,h.sz,h.rk⟩
theorem Zb4 (h:Mad n s) (hn:n≤31) {i t:Int} (hk:key.Ok) (hks:key.size≤10) (he:(ZdQ s (ZA name key i t)).2=0):Mad (n+1) (ZdQ s (ZA name key i t)).1:=by
 unfold ZdQ at he ⊢
 split at he; · cases he
 split at he; · cases he
 rename_i hz1 h2
 rw [if_neg hz1,if_neg h2]
 have hz1:((ZA name key i t).issue s.key).2=0:=Classical.not_not.1 hz1
 have hr:=ZfL hz1
 have hio:=Xy (x:=ZA name key i t) (key:=s.key) hk h.ok.k
 have hz:((ZA name key i t).issue s.key).1.size≤150:=by
  have:=hio.2
  have h3:=(Zai (name:=Zgf) (by decide)).2
  rw [h.key] at this ⊢
  simp only [ZA] at this ⊢
  omega
 refine ⟨Zhl h.ok (by have:=h.len;omega) hio.1 (by omega),h.key,?_,?_,?_⟩
 · show (s.log ++ [_]).length ≤ n + 1
   have:=h.len
   simp only [List.length_append,List.length_singleton]
   omega
 · intro u hu
   have hu:u∈s.log++ [((ZA name key i t).issue s.key).1]:=hu
   simp only [List.mem_append,List.mem_singleton] at hu
   rcases hu with hu|rfl
   · exact h.sz u hu
   · exact hz
 · intro u hu
   have hu:u∈s.log++ [((ZA name key i t).issue s.key).1]:=hu
   simp only [List.mem_append,List.mem_singleton] at hu
   rcases hu with hu|rfl
   · exact h.rk u hu
   · rw [hr]
     exact hks
def ZoT:List Bs:=[[111,114,103],[97,46,111,114,103],[98,46,97,46,111,114,103],[110,101,116],[99,46,110,101,116],[97,46,98,46,97,46,111,114,103]]
def ZtE:List Bs:=[[114],[97],[98],[99]]
def UV (n:Nat):Bs:=(ZoT[n % 6]?).getD []
def Zna (n:Nat):Bs:=(ZtE[n % 4]?).getD []
def Zkf (n:Nat):Tm:=pkT (skT (Zna n))
theorem ZhH (n:Nat):(UV n).length≤100:=by
 unfold UV
 have h:n % 6<6:=Nat.mod_lt _ (by omega)
 generalize n % 6=m at h
 match m,h with
 |0,_|1,_|2,_|3,_|4,_|5,_=>decide
theorem Zi6 (n:Nat):(Zna n).length≤100:=by
 unfold Zna
 have h:n % 4<4:=Nat.mod_lt _ (by omega)
 generalize n % 4=m at h
 match m,h with
 |0,_|1,_|2,_|3,_=>decide
theorem Zii (n:Nat):(Zkf n).Ok∧(Zkf n).size≤10:=by
 have h:=Zai (name:=Zna n) (by have:=Zi6 n;omega)
 refine ⟨ok1 (by decide) h.1,?_⟩
 have:(Zkf n).size=(skT (Zna n)).size+1:=Zjq
 omega
theorem ZlI:((List.range 256).all fun n=>Ql E0 100 60 ⟨92,[.int .u8 (n:Int)],.str (UV n)⟩)=true:=by kernel_rfl
theorem c92 (h:n<256):∀ H,CallOk E0 Tryz.prog 92 [.int .u8 (n:Int)] H (.str (UV n)) H:=
 Xi tOk follows fOk zOk (List.all_eq_true.1 ZlI n (List.mem_range.2 h))
theorem Znc:((List.range 256).all fun n=>Ql E0 100 60 ⟨93,[.int .u8 (n:Int)],.agg (Zkf n).cells⟩)=true:=by kernel_rfl
theorem c93 (h:n<256):∀ H,CallOk E0 Tryz.prog 93 [.int .u8 (n:Int)] H (.agg (Zkf n).cells) H:=
 Xi tOk follows fOk zOk (List.all_eq_true.1 Znc n (List.mem_range.2 h))
structure Opp where
 kind:Nat
 name:Nat
 key:Nat
variable {o:Opp} {l:List Opp}
def Opp.cells (o:Opp):List PV:=[.int .u8 (o.kind:Int),.int .u8 (o.name:Int),.int .u8 (o.key:Int)]
def Opp.ok (o:Opp):Prop:=o.kind<256∧o.name<256∧o.key<256
def doF (s:Sv) (o:Opp):Sv×Int:=if o.kind % 3=0 then Zi2 s (UV o.name) (Zkf o.key) else if o.kind % 3=1 then Zjc s (UV o.name) (Zkf o.key) else ZiT s (UV o.name)
theorem ZkB (h:Mad n s) (hn:n≤31) (o:Opp) (he:(doF s o).2=0):Mad (n+1) (doF s o).1:=by
 have hp:=Zii o.key
 have hl:=h.look (UV o.name)
 unfold doF at he ⊢
 split at he
 · rename_i hz1
   rw [if_pos hz1]
   unfold Zi2 at he ⊢
   split at he; · rename_i h2;exact absurd he h2
   split at he; · rename_i h2;exact absurd he h2
   split at he; · cases he
   rename_i h2 h3 h4
   rw [if_neg h2,if_neg h3,if_neg h4]
   exact Zb4 h hn hp.1 hp.2 he
 · rename_i hz1
   rw [if_neg hz1]
   split at he
   · rename_i h2
     rw [if_pos h2]
     unfold Zjc at he ⊢
     split at he; · rename_i h2;exact absurd he h2
     split at he; · rename_i h2;exact absurd he h2
     split at he; · cases he
     split at he; · cases he
     rename_i h2 h3 h4 h5
     rw [if_neg h2,if_neg h3,if_neg h4,if_neg h5]
     exact Zb4 h hn hp.1 hp.2 he
   · rename_i h2
     rw [if_neg h2]
     unfold ZiT at he ⊢
     split at he; · rename_i h2;exact absurd he h2
     split at he; · cases he
     rename_i h2 h3
     rw [if_neg h2,if_neg h3]
     exact Zb4 h hn hl.1 hl.2 he
theorem Zno (k m:Nat) (hm:m≠0):ZQ E0 .rem 5 (.int .u8 (k:Int)) (.int .u8 (m:Int))=some (.int .u8 ((k % m:Nat):Int)):=by
 show (if (m:Int)=0 then none else some (PV.int .u8 ((k:Int).tmod (m:Int))))=_
 rw [if_neg (by omega)]
 rfl
theorem Zmk (a b:Nat):ZQ E0 .eql 5 (.int .u8 (a:Int)) (.int .u8 (b:Int))=some (.bool (decide (a=b))):=by
 show some (PV.bool ((a:Int)==(b:Int)))=_
 have e:((a:Int)==(b:Int))=decide (a=b):=by
  rw [Bool.eq_iff_iff,beq_iff_eq,decide_eq_true_eq]
  omega
 rw [e]
theorem Zmn (s:Sv) (o:Opp):ZZ [.agg s.cells,.agg o.cells]=some [.agg s.cells,.agg o.cells]:=by
 have h:=Zcw s
 simp only [ZZ] at h ⊢
 revert h
 generalize frzG (.agg s.cells)=F
 cases F<;>simp
 rintro rfl
 rfl
theorem c49 (h:Mad n s) (hn:n≤31) (ho:o.ok):∀ H,CallOk E0 Tryz.prog 49 [.agg s.cells,.agg o.cells] H (.tup [.agg (doF s o).1.cells,.int .i64 (doF s o).2]) H:=by
 have hp:=Zii o.key
 have hsl:=ZhH o.name
 have hl:=h.look (UV o.name)
 have cs:=c92 ho.2.1
 have cp:=c93 ho.2.2
 have ca:=c27 h.ok (by have:=h.len;omega) (name:=UV o.name) (by omega) hp.1 (by omega) h.ks
 have cb:=c29 h.ok (by have:=h.len;omega) (name:=UV o.name) (by omega) hp.1 (by omega) h.ks
 have cc:=c31 h.ok (by have:=h.len;omega) (name:=UV o.name) (by omega) (by omega) h.ks
 have hfz:=Zmn s o
 have hr:=Zno o.kind 3 (by omega)
 have q0:=Zmk (o.kind % 3) 0
 have q1:=Zmk (o.kind % 3) 1
 have hfr:=fun m H=>XR m H
 unfold doF
 clear h hn ho hp hsl hl
 generalize o.kind % 3=R at hr q0 q1 ⊢
 generalize UV o.name=NM at cs ca cb cc ⊢
 generalize Zkf o.key=KT at cp ca cb ⊢
 generalize Zi2 s NM KT=A at ca ⊢
 generalize Zjc s NM KT=B at cb ⊢
 generalize ZiT s NM=C at cc ⊢
 obtain ⟨sn,⟨k,nm,z,b,kids⟩,lb,log,kb,keys⟩:=s
 obtain ⟨okind,oname,okey⟩:=o
 obtain ⟨k2,nm2,s2,b2,kids2⟩:=KT
 simp only [Sv.cells,Opp.cells,Tm.cells,List.cons_append,List.nil_append] at cs cp ca cb cc hfz hr
 by_cases hz0:R=0
 · rw [decide_eq_true hz0] at q0
   rw [if_pos hz0]
   obtain ⟨⟨an,⟨ak,anm,az,ab,akids⟩,alb,alog,akb,akeys⟩,ae⟩:=A
   have hf:=fun m H=>hfr m H ⟨an,.mk ak anm az ab akids,alb,alog,akb,akeys⟩ ae
   simp only [Sv.cells,Tm.cells,List.cons_append,List.nil_append,Opp.cells] at ca hf ⊢
   refine Zt (own:=(fun d=>[30008].any (Nat.beq d))) tOk fe49.ok hfz (hf 0 hNil) ?_
   refine Wp.seq ?_
   repeat' first|refine Jc (ca _) ?_|refine Ji ?_|refine Jt ?_|refine Jo ?_|refine Jd (cs _) ?_|refine Jd (cp _) ?_|(apply dAl;rfl;rfl;rfl;rfl;exact IsV.ptrM;exact IsH.mkN)|refine Jh ?_|(apply dWB tOk follows;rfl;kernel_rfl;rfl;exact IsH.mkN)|fail
   all_goals exact hf _ _
 · rw [decide_eq_false hz0] at q0
   rw [if_neg hz0]
   by_cases hz1:R=1
   · rw [decide_eq_true hz1] at q1
     rw [if_pos hz1]
     obtain ⟨⟨an,⟨ak,anm,az,ab,akids⟩,alb,alog,akb,akeys⟩,ae⟩:=B
     have hf:=fun m H=>hfr m H ⟨an,.mk ak anm az ab akids,alb,alog,akb,akeys⟩ ae
     simp only [Sv.cells,Tm.cells,List.cons_append,List.nil_append,Opp.cells] at cb hf ⊢
     refine Zt (own:=(fun d=>[30008].any (Nat.beq d))) tOk fe49.ok hfz (hf 0 hNil) ?_
     refine Wp.seq ?_
     repeat' first|refine Jc (cb _) ?_|refine Ji ?_|refine Jt ?_|refine Jo ?_|refine Jd (cs _) ?_|refine Jd (cp _) ?_|(apply dAl;rfl;rfl;rfl;rfl;exact IsV.ptrM;exact IsH.mkN)|refine Jh ?_|(apply dWB tOk follows;rfl;kernel_rfl;rfl;exact IsH.mkN)|fail
     all_goals exact hf _ _
   · rw [decide_eq_false hz1] at q1
     rw [if_neg hz1]
     obtain ⟨⟨an,⟨ak,anm,az,ab,akids⟩,alb,alog,akb,akeys⟩,ae⟩:=C
     have hf:=fun m H=>hfr m H ⟨an,.mk ak anm az ab akids,alb,alog,akb,akeys⟩ ae
     simp only [Sv.cells,Tm.cells,List.cons_append,List.nil_append,Opp.cells] at cc hf ⊢
     refine Zt (own:=(fun d=>[30008].any (Nat.beq d))) tOk fe49.ok hfz (hf 0 hNil) ?_
     refine Wp.seq ?_
     repeat' first|refine Jc (cc _) ?_|refine Ji ?_|refine Jt ?_|refine Jo ?_|refine Jd (cs _) ?_|refine Jd (cp _) ?_|(apply dAl;rfl;rfl;rfl;rfl;exact IsV.ptrM;exact IsH.mkN)|refine Jh ?_|(apply dWB tOk follows;rfl;kernel_rfl;rfl;exact IsH.mkN)|fail
     all_goals exact hf _ _
theorem Zn0 (e:Int):ZQ E0 .eql 32 (.int .i64 e) (.int .i64 0)=some (.bool (decide (e=0))):=by
 show some (PV.bool (e==0))=_
 by_cases h:e=0<;>simp [h]
def opC (l:List Opp):List (List PV):=l.map Opp.cells
theorem Zla (l:List Opp):(opC l).length=l.length:=by simp [opC]
theorem ZkZ {i:Nat} (h:l[i]? = some o):(opC l)[i]? = some o.cells:=by simp [opC,h]
def ZfM (s:Sv) (o:Opp):Sv:=if (doF s o).2=0 then (doF s o).1 else s
def Wr (l:List Opp):Nat→Sv
 |0=>V9 Zgf
 | i + 1 => match l[i]? with
   | some o=>ZfM (Wr l i) o
   | none=>Wr l i
theorem Zlg:Mad 0 (V9 Zgf):=
 ⟨⟨by decide,(Zai (name:=Zgf) (by decide)).1,by have:=(Zai (name:=Zgf) (by decide)).2;show (skT Zgf).size≤900;omega,by simp [V9],by simp [V9],by simp [V9],by simp [V9,V4],by simp [V9]⟩,rfl,by simp [V9],by simp [V9],by simp [V9]⟩
theorem Zb7 (l:List Opp):∀ {i:Nat},i≤31→Mad i (Wr l i)
 |0,_=>Zlg
 | i + 1, h => by
   have ih:=Zb7 l (i:=i) (by omega)
   simp only [Wr]
   split
   · unfold ZfM
     split
     · rename_i he
       exact ZkB ih (by omega) _ he
     · exact ih.mono (by omega)
   · exact ih.mono (by omega)
theorem Zjp (m:Nat) (H:Heap) (s:Sv):frz3 m H (.agg s.cells)=some (.agg s.cells):=ZhZ m H s
theorem Zdb:XN Zgf=true:=by decide
theorem c17 (ho:∀ o,o∈l→o.ok) (b:Bool):∀ H,CallOk E0 Tryz.prog 17 [slV b 3 (opC l)] H (.agg (Wr l (min l.length 10)).cells) H:=by
 have hfr:=fun m H=>Zjp m H
 have cn:=c12 Zgf (by decide)
 rw [if_pos Zdb,if_pos Zdb] at cn
 have hz1:=Zla l
 refine Zt (own:=(fun d=>[30010].any (Nat.beq d))) tOk fe17.ok (by simp only [ZZ,YU]) (hfr 0 hNil _) ?_
 refine Wp.seq ?_
 have e0:Wr l 0=V9 Zgf:=rfl
 have hz:=ZM
 have cn':=cn
 clear cn
 obtain ⟨S0,hS0⟩:∃ S0,S0=V9 Zgf:=⟨_,rfl⟩
 rw [← hS0] at cn' e0
 obtain ⟨sn,⟨k,nm,z,bk,kids⟩,lb,log,kb,keys⟩:=S0
 simp only [Sv.cells,Tm.cells,List.cons_append,List.nil_append] at cn'
 repeat' first|refine Jc (cn' _) ?_|refine Jo ?_|fail
 refine Wp.while (fun m tm H=>∃ (i:Nat) (base:TM),i+m=10∧i≤l.length∧tm=ovr base [(0,slV b 3 (opC l)),(2,.ptr 0 7 0 0),(3,.ptr 1 7 0 0),(5,.int .i64 (i:Int))]∧H=⟨[.cells 7 [svZero.cells],.cells 7 [(Wr l i).cells]],0,[],0⟩)
  (fun m tm H hI=>Wp.drop ?_) 10 _ _ ⟨0,_,by omega,by omega,Zh ⟨rfl,rfl,rfl,rfl,trivial⟩,by rw [e0,ZM];rfl⟩
 clear cn' e0 hS0
 obtain ⟨i,base,hi,hil,rfl,rfl⟩:=hI
 have hM:=Zb7 l (i:=i) (by omega)
 by_cases hlt:i<l.length
 · have hlx : ZQ E0 .lss 3 (.int .i64 (i : Int)) (.int .i64 ((opC l).length : Int)) = some (.bool true) := Wa (by omega)
   by_cases h10:i<10
   · have hly : ZQ E0 .lss 3 (.int .i64 (i : Int)) (.int .i64 10) = some (.bool true) := Wa (by omega)
     obtain ⟨o,hoi⟩:∃ o,l[i]? = some o:=⟨l[i],by simp⟩
     have cd:=c49 hM (by omega) (ho o (List.mem_of_getElem? hoi))
     have hj:=ZkZ hoi
     have hst:Wr l (i+1)=ZfM (Wr l i) o:=by simp only [Wr,hoi]
     unfold ZfM at hst
     have be:=Zn0 (doF (Wr l i) o).2
     rw [ZM]
     generalize doF (Wr l i) o=D at cd hst be
     generalize Wr l i=S at cd hst
     obtain ⟨⟨an,⟨ak,anm,az,ab,akids⟩,alb,alog,akb,akeys⟩,ae⟩:=D
     obtain ⟨sn2,⟨k2,nm2,z2,bk2,kids2⟩,lb2,log2,kb2,keys2⟩:=S
     obtain ⟨ok,on,oy⟩:=o
     simp only [Sv.cells,Opp.cells,Tm.cells,List.cons_append,List.nil_append] at cd hj
     by_cases he:ae=0
     · rw [decide_eq_true he] at be
       rw [if_pos he] at hst
       simp only [Sv.cells,Tm.cells,List.cons_append,List.nil_append]
       repeat' first|refine Ji ?_|refine Jl ?_|refine Jt ?_|refine Jo ?_|refine Jd (cd _) ?_|(apply dAl;rfl;rfl;rfl;rfl;exact IsV.ptrM;exact IsH.mkN)|refine JI ?_|refine Jh ?_|(apply dWB tOk follows;rfl;kernel_rfl;rfl;exact IsH.mkN)|fail
       exact DropQ.go [(0,slV b 3 (opC l)),(2,.ptr 0 7 0 0),(3,.ptr 1 7 0 0),(5,.int .i64 ((i+1:Nat):Int))] ⟨rfl,rfl,rfl,Zi (Zf (n:=i+1) (by omega)),trivial⟩
        (by simp [Zp,under]) rfl (by simp [YF,ZP,under,Zp]) (LoopI.go (m-1) (by omega) ⟨i+1,_,by omega,by omega,rfl,by rw [hst];rfl⟩)
     · rw [decide_eq_false he] at be
       rw [if_neg he] at hst
       simp only [Sv.cells,Tm.cells,List.cons_append,List.nil_append]
       repeat' first|refine Ji ?_|refine Jl ?_|refine Jt ?_|refine Jo ?_|refine Jd (cd _) ?_|(apply dAl;rfl;rfl;rfl;rfl;exact IsV.ptrM;exact IsH.mkN)|refine JI ?_|refine Jh ?_|(apply dWB tOk follows;rfl;kernel_rfl;rfl;exact IsH.mkN)|fail
       exact DropQ.go [(0,slV b 3 (opC l)),(2,.ptr 0 7 0 0),(3,.ptr 1 7 0 0),(5,.int .i64 ((i+1:Nat):Int))] ⟨rfl,rfl,rfl,Zi (Zf (n:=i+1) (by omega)),trivial⟩
        (by simp [Zp,under]) rfl (by simp [YF,ZP,under,Zp]) (LoopI.go (m-1) (by omega) ⟨i+1,_,by omega,by omega,rfl,by rw [hst];rfl⟩)
   · have e : i = 10 := by omega
     have hly:ZQ E0 .lss 3 (.int .i64 (i:Int)) (.int .i64 10)=some (.bool false):=Xe (by omega)
     have e2:min l.length 10=i:=by omega
     rw [e2]
     clear e e2 hM
     have hf:=fun m H=>hfr m H (Wr l i)
     rw [ZM]
     generalize Wr l i=S at hf ⊢
     obtain ⟨sn2,⟨k2,nm2,z2,bk2,kids2⟩,lb2,log2,kb2,keys2⟩:=S
     simp only [Sv.cells,Tm.cells,List.cons_append,List.nil_append] at hf ⊢
     repeat' first|refine Ji ?_|refine Jl ?_|refine Jt ?_|refine Jo ?_|fail
     all_goals exact hf _ _
 · have e : i = l.length := by omega
   have hlx:ZQ E0 .lss 3 (.int .i64 (i:Int)) (.int .i64 ((opC l).length:Int))=some (.bool false):=Xe (by omega)
   have e2:min l.length 10=i:=by omega
   rw [e2]
   clear e e2 hM
   have hf:=fun m H=>hfr m H (Wr l i)
   rw [ZM]
   generalize Wr l i=S at hf ⊢
   obtain ⟨sn2,⟨k2,nm2,z2,bk2,kids2⟩,lb2,log2,kb2,keys2⟩:=S
   simp only [Sv.cells,Tm.cells,List.cons_append,List.nil_append] at hf ⊢
   repeat' first|refine Jk ?_|refine Ji ?_|refine Jl ?_|refine Jt ?_|refine Jo ?_|fail
   all_goals exact hf _ _
end Go.Vm.Seat
