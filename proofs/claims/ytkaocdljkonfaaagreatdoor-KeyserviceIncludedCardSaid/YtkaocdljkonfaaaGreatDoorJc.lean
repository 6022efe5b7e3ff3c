/-
  A key set among entries, by the program's text. The keys of a log, by the program's text.
-/
import Derived.Test.YtkaocdljkonfaaaGreatDoorJa
set_option maxHeartbeats 64000000
set_option maxRecDepth 100000
namespace Go.Vm.Seat
variable {H:Heap} {L M:List En} {D:List (List PV)} {S i m:Nat} {name:Bs} {key:Tm} {e:En}
open Go.Proofs
theorem Zam (M:List En):Xl (enC M)=some (enC M):=by
 induction M with
 |nil=>rfl
 | cons a r ih =>
   obtain ⟨nm,⟨k,m,s,b,kids⟩,i⟩:=a
   show Xl ((En.mk nm (.mk k m s b kids) i).cells::enC r)=_
   simp only [Xl,ih,En.cells,Tm.cells,List.cons_append,List.nil_append,Xm,Zu]
   rfl
theorem Zj4 {id:Nat} (hb:nth H.bx id=some (.cells 6 (enC M++D))):XK H (.own id 6 0 M.length)=some (enC M):=by
 simp only [XK,hb]
 rw [if_pos ⟨trivial,by rw [List.length_append,Z6];omega⟩,List.drop_zero,show (enC M++D).take M.length=enC M by rw [← Z6 M,List.take_left],Zam]
theorem Zeo {id:Nat} (hid:m≤id) (hb:nth H.bx id=some (.cells 6 (enC M))):frz3 m H (.own id 6 0 M.length)=some (.sl .none 6 (enC M)):=by
 show frzC m H (.own id 6 0 M.length)=_
 simp only [frzC,if_neg (Nat.not_lt.2 hid),hb]
 rw [if_pos ⟨trivial,by rw [Z6];omega⟩,List.drop_zero,show (enC M).take M.length=enC M by rw [← Z6 M,List.take_length],Zam]
theorem Zvi (K A:Box) (hl:M.length≤1000) {y:En}:CallOk E7 Tryz.prog 139 [.own 2 6 0 M.length,.int .i64 (M.length:Int),.own 3 6 0 1] ⟨[K,A,.cells 6 (enC M++D),.cells 6 [y.cells]],0,[],0⟩ (.own 4 6 0 (M.length+1)) ⟨[K,A,.dead,.cells 6 [y.cells],.cells 6 (enC (M++ [y]))],0,[],0⟩:=by
 have hsl:=Zlt (id:=2) (k:=M.length) (n:=M.length) (Nat.le_refl _)
 have heq:ZV E7 .eql 3 (.int .i64 (M.length:Int)) (.int .i64 (M.length:Int))=some (.bool true):=by
  show some (PV.bool ((M.length:Int)==(M.length:Int)))=_
  simp
 have hs:=Zj4 (H:=⟨[K,A,.cells 6 (enC M++D),.cells 6 [y.cells]],0,[],0⟩) (id:=2) (M:=M) (D:=D) rfl
 have he:=Zrn (y:=y) (H:=⟨[K,A,.cells 6 (enC M++D),.cells 6 [y.cells]],0,[],0⟩) (id:=3) rfl (s:= .own 2 6 0 M.length) rfl rfl
 have hap:Yb E7 25 25 (.own 2 6 0 M.length) (.own 3 6 0 1) ⟨[K,A,.cells 6 (enC M++D),.cells 6 [y.cells]],0,[],0⟩=some (.own 4 6 0 (M.length+1),⟨[K,A,.dead,.cells 6 [y.cells],.cells 6 (enC (M++ [y]))],0,[],0⟩):=by
  simp only [Yb,he,Xz,U4,hs]
  rw [if_pos ⟨trivial,Nat.zero_le _,Z6 M,ZZ (by rw [Z6];simp;omega) (by decide)⟩,Uc,Z6]
  rfl
 clear hs he
 generalize enC M++D=L at hap ⊢
 generalize enC (M++ [y])=L2 at hap ⊢
 generalize M.length+1=n1 at hap ⊢
 generalize M.length=n at hap hsl heq ⊢
 refine YO (own:=fun d=>Nat.beq d 25) WB fe139.ok ?_
 refine Wp.seq ?_
 repeat' first|refine JS ?_|refine Ji ?_|refine Jt ?_|refine Jo ?_|fail
 refine ZpW rfl rfl rfl rfl rfl hap ?_
 repeat' first|refine Jo ?_|fail
 all_goals exact RetE.ret rfl rfl rfl
def Za6 (M:List En) (i:Nat) (e:En):List En:=M.take i++ [e]++M.drop i
theorem ZkP (M:List En) (i:Nat) (e:En):VZ (enC M) i e.cells=enC (Za6 M i e):=by
 simp only [VZ,Za6,Uc,ZfL,ZfK]
 rfl
theorem ZfG (h:i≤M.length) (e:En):(Za6 M i e).length=M.length+1:=by
 simp only [Za6,List.length_append,List.length_take,List.length_drop,List.length_singleton];omega
def UN (L:List En) (name:Bs) (key:Tm) (i:Int):List En:=Za6 (L.filter (Yd name)) (Wy name (L.filter (Yd name))) ⟨name,key.cl,i⟩
theorem ZnL (b:Bool) (L:List (List PV)) (name:Bs) (key:Tm) (i:Int):ZC [slV b 6 L,.str name,.agg key.cells,.int .i64 i]=some [slV b 6 L,.str name,.agg key.cells,.int .i64 i]:=by
 obtain ⟨k,nm,s,tb,kids⟩:=key
 simp only [Tm.cells,ZC,Yl]
 simp only [frzG,Xm,Zu]
 rfl
theorem c86 (hl:L.length≤900) (hO:Vo (L.filter (Yd name))) (hk:key.Ok) (hks:key.size≤100000) (i:Int) (b:Bool):∀ H,CallOk E0 Tryz.prog 86 [slV b 6 (enC L),.str name,.agg key.cells,.int .i64 i] H (.sl .none 6 (enC (UN L name key i))) H:=by
 have hcp:=fun H=>Zft (c33 hk hks H)
 have hbd:=Zew name key.cl i
 have hbd:XZ E7 60 [(0,.str name),(1,.agg key.cl.cells),(2,.int .i64 i)]=some (.agg (En.mk name key.cl i).cells):=hbd
 have hfz:=ZnL b (enC L) name key i
 refine Zen ?_
 have hKU:∀ n,YA n (.cells 4 [key.cells])=true:=fun n=>by
  obtain ⟨k,nm,s,tb,kids⟩:=key
  show ([[PV.int .i64 k,.str nm,.int .i64 s,slV tb 4 (Za kids)]].all (ZH n))=true
  simp only [List.all_cons,List.all_nil,ZH,under,Zm]
  rfl
 have hce:∃ a c d e f g,(En.mk name key.cl i).cells= [a,c,d,e,f,g]:=by
  generalize key.cl=X
  obtain ⟨k,nm,s,tb,kids⟩:=X
  exact ⟨_,_,_,_,_,_,rfl⟩
 obtain ⟨Y,hY⟩:∃ Y,Y=En.mk name key.cl i:=⟨_,rfl⟩
 have hS:UN L name key i=Za6 (L.filter (Yd name)) (Wy name (L.filter (Yd name))) Y:=by rw [hY];rfl
 rw [hS]
 rw [← hY] at hbd hce
 have hfr:frz3 0 hNil (.sl .none 6 (enC (Za6 (L.filter (Yd name)) (Wy name (L.filter (Yd name))) Y)))=some (.sl .none 6 (enC (Za6 (L.filter (Yd name)) (Wy name (L.filter (Yd name))) Y))):=rfl
 clear hY hS
 by_cases hL:L= []
 · subst hL
   have k1:=ZuG b (.cells 4 [key.cells]) name
   have k2:=Zs2 b name [.cells 4 [key.cells],Yi name]
   have k3:=ZtM b (.cells 4 [key.cells]) (Yi name) (y:=Y)
   have hfin:=Zeo (m:=0) (H:=⟨[.cells 4 [key.cells],Yi name,.cells 6 [Y.cells],.cells 6 [Y.cells]],0,[],0⟩) (id:=3) (M:=[Y]) (Nat.zero_le _) rfl
   have hfin:frz3 0 ⟨[.cells 4 [key.cells],Yi name,.cells 6 [Y.cells],.cells 6 [Y.cells]],0,[],0⟩ (.own 3 6 0 1)=some (.sl .none 6 (enC (Za6 (([]:List En).filter (Yd name)) (Wy name (([]:List En).filter (Yd name))) Y))):=hfin
   obtain ⟨a,c,d,e,f,g,hce⟩:=hce
   generalize enC (Za6 (([]:List En).filter (Yd name)) (Wy name (([]:List En).filter (Yd name))) Y)=R at hfin hfr ⊢
   rw [hce] at hbd k3 hfin
   generalize zV b=Z at k1 k2 k3
   generalize key.cl=X at hcp hbd
   obtain ⟨k,nm,s,tb,kids⟩:=X
   obtain ⟨k',nm',s',tb',kids'⟩:=key
   unfold Yi at k1 k2 k3 hfin
   simp only [Tm.cells,show enC []= [] from rfl] at hcp hbd hfz k1 k2 k3 hfin ⊢
   refine Zr (own:=fun d=>Nat.beq d 27) WB fe86.ok hfz hfr ?_
   refine Wp.seq ?_
   repeat' first|(apply qCl;rfl;rfl;rfl;rfl;first|exact hcp _|exact k1|exact k2|exact k3)|(apply qBd;rfl;rfl;rfl;assumption;exact IsV.aggN)|refine Jt ?_|refine Jo ?_|fail
   all_goals exact hfin
 · obtain ⟨r, H', k1, A, D, rfl, hA, rfl⟩ := Zsr (K := .cells 4 [key.cells]) hKU hL (by omega) b name
   have hMl:(L.filter (Yd name)).length≤900:=Nat.le_trans (List.length_filter_le _ _) hl
   generalize L.filter (Yd name)=M at hO k1 hfr hMl ⊢
   have hbl:=ZfU name M
   obtain ⟨ff,k2⟩:=Zu8 (K:= .cells 4 [key.cells]) (A:=A) (M:=M) (D:=D) (by omega) hO name
   obtain ⟨a,c,d,e,f,g,hce⟩:=hce
   by_cases hi:Wy name M<M.length
   · have hy6 : Y.cells.all Z3 = true := by
       have:=Qp [Y]
       simpa [enC] using this
     have k3:=Zft (Zmj (H:=⟨[.cells 4 [key.cells],A,.cells 6 (enC M),.cells 6 [Y.cells]],0,[],0⟩) (id:=2) (id2:=3) (n:=M.length) (i:=Wy name M) (el:=enC M) (y:=Y.cells) rfl rfl (Nat.zero_le _) (by decide) (Z6 M) hi (by omega) (Qp M) hy6)
     have k3:=CallOk.trunc (H:=⟨[.cells 4 [key.cells],A,.cells 6 (enC M++D),.cells 6 [Y.cells]],0,[],0⟩) (id:=2) (es:=6) (el:=enC M) (D:=D) rfl rfl k3
     rw [ZkP] at k3
     have hfin:=Zeo (m:=0) (H:=⟨[.cells 4 [key.cells],A,.dead,.cells 6 [Y.cells],.cells 6 (enC (Za6 M (Wy name M) Y))],0,[],0⟩) (id:=4) (M:=Za6 M (Wy name M) Y) (Nat.zero_le _) rfl
     rw [ZfG (by omega)] at hfin
     have k3:CallOk E7 Tryz.prog 139 [.own 2 6 0 M.length,.int .i64 (Wy name M:Int),.own 3 6 0 1] ⟨[.cells 4 [key.cells],A,.cells 6 (enC M++D),.cells 6 [Y.cells]],0,[],0⟩ (.own 4 6 0 (M.length+1)) ⟨[.cells 4 [key.cells],A,.dead,.cells 6 [Y.cells],.cells 6 (enC (Za6 M (Wy name M) Y))],0,[],0⟩:=k3
     generalize enC (Za6 M (Wy name M) Y)=R at hfin hfr k3 ⊢
     generalize Wy name M=p at k2 k3
     generalize enC M++D=LL at k1 k2 k3
     generalize M.length+1=n1 at k3 hfin
     generalize M.length=n at k1 k2 k3
     rw [hce] at hbd k3 hfin
     generalize key.cl=X at hcp hbd
     generalize enC L=LE at k1 hfz ⊢
     obtain ⟨k,nm,s,tb,kids⟩:=X
     obtain ⟨k',nm',s',tb',kids'⟩:=key
     simp only [Tm.cells] at hcp hbd hfz k1 k2 k3 hfin ⊢
     refine Zr (own:=fun d=>Nat.beq d 27) WB fe86.ok hfz hfr ?_
     refine Wp.seq ?_
     repeat' first|(apply qCl;rfl;rfl;rfl;rfl;first|exact hcp _|exact k1|exact k2|exact k3)|(apply qBd;rfl;rfl;rfl;assumption;exact IsV.aggN)|refine Jt ?_|refine Jb ?_ ?_|refine Jo ?_|intro hb
     all_goals exact hfin
   · have hin : Wy name M = M.length := by omega
     have k3:=Zvi (.cells 4 [key.cells]) A (M:=M) (D:=D) (by omega) (y:=Y)
     have hR:Za6 M (Wy name M) Y=M++ [Y]:=by
      rw [hin,Za6,List.take_length,List.drop_length,List.append_nil]
     rw [hR] at hfr ⊢
     have hfin:=Zeo (m:=0) (H:=⟨[.cells 4 [key.cells],A,.dead,.cells 6 [Y.cells],.cells 6 (enC (M++ [Y]))],0,[],0⟩) (id:=4) (M:=M++ [Y]) (Nat.zero_le _) rfl
     rw [show (M++ [Y]).length=M.length+1 by simp] at hfin
     rw [hin] at k2
     generalize enC (M++ [Y])=R at hfin hfr k3 ⊢
     generalize enC M++D=LL at k1 k2 k3
     generalize M.length+1=n1 at k3 hfin
     generalize M.length=n at k1 k2 k3
     rw [hce] at hbd k3 hfin
     generalize key.cl=X at hcp hbd
     generalize enC L=LE at k1 hfz ⊢
     obtain ⟨k,nm,s,tb,kids⟩:=X
     obtain ⟨k',nm',s',tb',kids'⟩:=key
     simp only [Tm.cells] at hcp hbd hfz k1 k2 k3 hfin ⊢
     refine Zr (own:=fun d=>Nat.beq d 27) WB fe86.ok hfz hfr ?_
     refine Wp.seq ?_
     repeat' first|(apply qCl;rfl;rfl;rfl;rfl;first|exact hcp _|exact k1|exact k2|exact k3)|(apply qBd;rfl;rfl;rfl;assumption;exact IsV.aggN)|refine Jt ?_|refine Jb ?_ ?_|refine Jo ?_|intro hb
     all_goals exact hfin
open Go.Proofs
theorem Zk5 {id:Nat} (hid:m≤id) (hb:nth H.bx id=some (.cells 6 (enC M++D))):frz3 m H (.own id 6 0 M.length)=some (.sl .none 6 (enC M)):=by
 show frzC m H (.own id 6 0 M.length)=_
 simp only [frzC,if_neg (Nat.not_lt.2 hid),hb]
 rw [if_pos ⟨trivial,by rw [List.length_append,Z6];omega⟩,List.drop_zero,show (enC M++D).take M.length=enC M by rw [← Z6 M,List.take_left],Zam]
theorem Zlg (hL:L≠ []) (hl:L.length≤1000) (b:Bool) (name:Bs):∀ H,CallOk E0 Tryz.prog 85 [slV b 6 (enC L),.str name] H (.sl .none 6 (enC (L.filter (Yd name)))) H:=fun H=>by
 obtain ⟨r,H',k,A,D,rfl,hA,rfl⟩:=Zsr (K:= .dead) (fun _=>rfl) hL hl b name
 have k:=CallOk.unkill k
 exact ZqF (Yc k (by simp only [ZC,Yl];rfl) (Zk5 (Nat.zero_le _) rfl) H)
theorem Wa (h:Vo L) (p:En→Bool):Vo (L.filter p):=by
 have hp:L.Pairwise (fun a b=>Xw a.name b.name<0):=by
  rw [List.pairwise_iff_getElem]
  intro i j hi hj hij
  exact h i j _ _ hij (List.getElem?_eq_getElem hi) (List.getElem?_eq_getElem hj)
 have h2:=hp.filter p
 rw [List.pairwise_iff_getElem] at h2
 intro i j a b hij ha hb
 obtain ⟨hi,rfl⟩:=List.getElem?_eq_some_iff.1 ha
 obtain ⟨hj,rfl⟩:=List.getElem?_eq_some_iff.1 hb
 exact h2 i j hi hj hij
theorem ZaP:Vo L↔L.Pairwise (fun a b=>Xw a.name b.name<0):=by
 rw [List.pairwise_iff_getElem]
 constructor
 · intro h i j hi hj hij
   exact h i j _ _ hij (List.getElem?_eq_getElem hi) (List.getElem?_eq_getElem hj)
 · intro h i j a b hij ha hb
   obtain ⟨hi,rfl⟩:=List.getElem?_eq_some_iff.1 ha
   obtain ⟨hj,rfl⟩:=List.getElem?_eq_some_iff.1 hb
   exact h i j hi hj hij
theorem ZdJ {name:Bs}:∀ {M:List En},Vo M→(∀ e,e∈M→e.name≠name)→(∀ e,e∈M.take (Wy name M)→Xw e.name name<0)∧(∀ e,e∈M.drop (Wy name M)→Xw name e.name<0)
 | [],_,_=>⟨fun e h=>by simp at h,fun e h=>by simp at h⟩
 | a :: r, hO, hn => by
   have hp:=ZaP.1 hO
   rw [List.pairwise_cons] at hp
   have ih:=ZdJ (M:=r) (ZaP.2 hp.2) (fun e he=>hn e (by simp [he]))
   by_cases ha:Xw a.name name<0
   · have e1 : Wy name (a :: r) = Wy name r + 1 := by
       simp only [Wy,List.filter_cons,UQ.1 ha,if_true,List.length_cons]
     rw [e1,List.take_succ_cons,List.drop_succ_cons]
     refine ⟨fun e he=>?_,ih.2⟩
     rcases List.mem_cons.1 he with rfl|he
     · exact ha
     · exact ih.1 e he
   · have hb : Op.bytesLess a.name name = false := by
       cases h:Op.bytesLess a.name name with
       | true=>exact absurd (UQ.2 h) ha
       | false=>rfl
     have hgt:Xw name a.name<0:=by
      have hne:=hn a (by simp)
      have h1:Xw a.name name=1:=by simp [Xw,hb,hne]
      have:=cmpB_on.anti a.name name trivial trivial
      omega
     have e0:Wy name (a::r)=0:=by
      simp only [Wy,List.filter_cons,hb,Bool.false_eq_true,if_false,List.length_eq_zero_iff,List.filter_eq_nil_iff]
      intro e he
      have h1:=hp.1 e he
      have h2:Xw name e.name<0:=WO hgt (by omega)
      intro h3
      have h4:=UQ.2 h3
      have:=WO h2 (c:=name) (by omega)
      have:=cmpB_on.anti name name trivial trivial
      omega
     rw [e0,List.take_zero,List.drop_zero]
     refine ⟨fun e h=>by simp at h,fun e he=>?_⟩
     rcases List.mem_cons.1 he with rfl|he
     · exact hgt
     · exact WO hgt (by have:=hp.1 e he;omega)
theorem Zh7 (hO:Vo M) (hn:∀ u,u∈M→u.name≠e.name):Vo (Za6 M (Wy e.name M) e):=by
 obtain ⟨h1,h2⟩:=ZdJ hO hn
 have hp:=ZaP.1 hO
 rw [← List.take_append_drop (Wy e.name M) M] at hp
 rw [List.pairwise_append] at hp
 obtain ⟨p1,p2,p3⟩:=hp
 rw [ZaP,Za6,List.append_assoc,List.pairwise_append]
 refine ⟨p1,?_,fun a ha b hb=>?_⟩
 · rw [List.singleton_append, List.pairwise_cons]
   exact ⟨h2,p2⟩
 · rw [List.singleton_append] at hb
   rcases List.mem_cons.1 hb with rfl|hb
   · exact h1 a ha
   · exact p3 a ha b hb
theorem ZeT:∀ u,u∈L.filter (Yd name)→u.name≠name:=fun u hu=>by
 have:=(List.mem_filter.1 hu).2
 simpa [Yd] using this
theorem ZeF (hO:Vo L) (name:Bs) (key:Tm) (i:Int):Vo (UN L name key i):=
 Zh7 (e:=⟨name,key.cl,i⟩) (Wa hO _) ZeT
theorem Zi4 (L:List En) (name:Bs) (key:Tm) (i:Int):(UN L name key i).length≤L.length+1:=by
 unfold UN
 rw [ZfG (ZfU _ _)]
 have:=List.length_filter_le (Yd name) L
 omega
theorem ZdI (h:Wz S L) (hn:name.length≤1000) (hk:key.Ok) (hks:key.size≤S) (i:Int):Wz S (UN L name key i):=by
 intro e he
 simp only [UN,Za6,List.mem_append,List.mem_singleton] at he
 rcases he with (he|rfl)|he
 · exact h e (List.mem_filter.1 (List.mem_of_mem_take he)).1
 · exact ⟨⟨Vi hk,by rw [YK];exact hks⟩,hn⟩
 · exact h e (List.mem_filter.1 (List.mem_of_mem_drop he)).1
theorem QG (h:Wz S L) (p:En→Bool):Wz S (L.filter p):=fun e he=>h e (List.mem_filter.1 he).1
def eqK (L:List En) (x:Cred):Bool:=(ZI x.sub L).isSome&&decide (((ZI x.sub L).getD enZero).key.cmp x.key=0)
def X4 (key:Tm) (i:Nat) (t:Tm) (L:List En):Option (List En):=
 if (Zf t).2≠0∨((Zf t).1.till≠9999∧(Zf t).1.till≠0) then none else
 if ((Zj (Zf t).1.sub (Zf t).1.key i (Zf t).1.till).issue key).2≠0∨t.cmp ((Zj (Zf t).1.sub (Zf t).1.key i (Zf t).1.till).issue key).1≠0 then none else
 if eqK L (Zf t).1≠decide ((Zf t).1.till=0) then none else
 if (Zf t).1.till=0 then some (L.filter (Yd (Zf t).1.sub)) else some (UN L (Zf t).1.sub (Zf t).1.key i)
def WU (key:Tm):List Tm→Nat→List En→Option (List En)
 | [],_,L=>some L
 | t :: r, i, L => match X4 key i t L with
   | some L'=>WU key r (i+1) L'
   | none=>none
theorem Q0 (h:ZI name L=some e):e∈L:=List.mem_of_find?_eq_some h
theorem Zfs (h:Wz 900 L) (name:Bs):((ZI name L).getD enZero).key.Ok∧((ZI name L).getD enZero).key.size≤900:=by
 cases e:ZI name L with
 |none=>exact ⟨Tm.ok_zero,by decide⟩
 |some u=>exact (h u (Q0 e)).1
theorem Zgr {t:Tm} {L':List En} (ht:t.Ok) (hs:t.size≤900) (h:Wz 900 L) (hO:Vo L) (e:X4 key i t L=some L'):Wz 900 L'∧Vo L'∧L'.length≤L.length+1:=by
 obtain ⟨r1,r2,r3⟩:=WW ht hs (by omega)
 unfold X4 at e
 split at e; · cases e
 split at e; · cases e
 split at e; · cases e
 split at e
 · cases e
   exact ⟨QG h _,Wa hO _,by have:=List.length_filter_le (Yd (Zf t).1.sub) L;omega⟩
 · cases e
   exact ⟨ZdI h r3 r1 r2 _,ZeF hO _ _ _,Zi4 _ _ _ _⟩
end Go.Vm.Seat
