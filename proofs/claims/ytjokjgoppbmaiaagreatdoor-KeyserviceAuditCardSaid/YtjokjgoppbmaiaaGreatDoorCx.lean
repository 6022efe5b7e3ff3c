/-
  Credentials: issued by the reference's text.
-/
import Derived.Test.YtjokjgoppbmaiaaGreatDoorCw
import Derived.Lib.ItoaLen
set_option maxHeartbeats 64000000
set_option maxRecDepth 100000
namespace Go.Vm.Seat
open Go.Proofs
theorem digC {d:Nat} (hd:d < 10):aConv E0 222 9 (.sl .full 1 [[.int .u8 (IntKind.u8.wrap (IntKind.i64.wrap (48+(d:Int))))]])=some (.str [UInt8.ofNat (48+d)]):=by
 have e1:IntKind.u8.wrap (IntKind.i64.wrap (48+(d:Int)))=((48+d:Nat):Int):=by
  rcases (show d=0∨d=1∨d=2∨d=3∨d=4∨d=5∨d=6∨d=7∨d=8∨d=9 by omega) with rfl | rfl | rfl | rfl | rfl | rfl | rfl | rfl | rfl | rfl <;> rfl
 rw [e1]
 rcases (show d=0∨d=1∨d=2∨d=3∨d=4∨d=5∨d=6∨d=7∨d=8∨d=9 by omega) with rfl | rfl | rfl | rfl | rfl | rfl | rfl | rfl | rfl | rfl <;> rfl
theorem digits_dec:∀ (f u:Nat),u < 10 ^ f→u≤100000→∀ H,CallOk E0 Tryz.prog 226 [.int .i64 (u:Int)] H (.str (Lib.decDigits u)) H:=by
 intro f
 induction f with
 | zero =>
   intro u h _
   have:u=0:=by simpa using h
   subst this
   have hc:=digC (d:=0) (by omega)
   rw [dec1 (by omega)]
   refine κw tOk fe226.ok rfl ?_
   repeat' first | refine κn ?_ | refine κs ?_ | (apply qCv;rfl;rfl;rfl;assumption;exact IsV.any _) | refine κt ?_ | refine κg ?_ | refine κa ?_ | refine κf ?_ | fail
   all_goals rfl
 | succ f ih =>
   intro u h hu
   by_cases hlt:u < 10
   · have hc := digC (d := u) hlt
     rw [dec1 hlt]
     refine κw tOk fe226.ok rfl ?_
     repeat' first | refine κn ?_ | refine κs ?_ | (apply qCv;rfl;rfl;rfl;assumption;exact IsV.any _) | refine κb ?_ ?_ | refine κg ?_ | refine κh ?_ | refine κa ?_ | (apply Wp.draw tOk follows;kernel_rfl) | refine κf ?_ | intro hb
     · rfl
     · exfalso;simp at hb;omega
   · have hq : IntKind.i64.wrap ((u : Int).tdiv 10) = ((u / 10 : Nat) : Int) := by
       have:(u:Int).tdiv 10=((u / 10:Nat):Int):=by rw [Int.tdiv_eq_ediv_of_nonneg (by omega)];omega
       rw [this];exact wrap_nat (by omega)
     have hm:(u:Int).tmod 10=((u % 10:Nat):Int):=by rw [Int.tmod_eq_emod_of_nonneg (by omega)];omega
     have hr:=ih (u / 10) (by rw [Nat.pow_succ] at h;omega) (by omega)
     rw [← hq] at hr
     have hc:=digC (d:=u % 10) (by omega)
     rw [← hm] at hc
     have hlen:(Lib.decDigits (u / 10)).length≤1000:=by
      rw [Lib.decDigits_length]
      have:=Lib.nDigits_le20 (u / 10) (by omega)
      omega
     rw [dec2 hlt]
     generalize Lib.decDigits (u / 10)=s at hr hlen ⊢
     have had:aBin E0 .add 9 (.str s) (.str [UInt8.ofNat (48+u % 10)])=some (.str (s ++ [UInt8.ofNat (48+u % 10)])):=by
      show aStr .add s _=_
      simp only [aStr]
      rw [if_pos (by simp;omega)]
     refine κw tOk fe226.ok rfl ?_
     repeat' first | refine κn ?_ | refine κs ?_ | refine κb ?_ ?_ | refine κg ?_ | refine κd (hr _) ?_ | refine κB ?_ | refine κD ?_ | (apply dCv;rfl;rfl;rfl;assumption;exact IsV.any _;rfl) | refine κh ?_ | refine κa ?_ | (apply Wp.draw tOk follows;kernel_rfl) | refine κf ?_ | intro hb
     · exfalso;simp at hb;omega
     · rfl
theorem c225 {n:Int} (h0:0≤n) (h1:n≤9999):∀ H,CallOk E0 Tryz.prog 225 [.int .i64 n] H (.agg (numT n).cells) H:=by
 have hl:=itoa_len h0 h1
 have hat:=c223 (110 :: Lib.itoa n)
 have hc:∀ H,CallOk E0 Tryz.prog 226 [.int .i64 n] H (.str (Lib.itoa n)) H:=by
  obtain ⟨u,rfl⟩:∃ u:Nat,n=(u:Int):=⟨n.toNat,by omega⟩
  have e:Lib.itoa (u:Int)=Lib.decDigits u:=by
   unfold Lib.itoa
   rw [if_neg (by omega)]
   rfl
  rw [e]
  exact digits_dec 5 u (by omega) (by omega)
 unfold numT
 generalize Lib.itoa n=s at hc hat hl ⊢
 have had:aBin E0 .add 9 (.str [110]) (.str s)=some (.str (110 :: s)):=by
  show aStr .add [110] s=_
  simp only [aStr]
  rw [if_pos (by simp;omega)]
  rfl
 rw [atomT_cells] at hat ⊢
 refine κw tOk fe225.ok rfl ?_
 repeat' first | refine κn ?_ | refine κc (hc _) ?_ | refine κc (hat _) ?_ | refine κi ?_ | refine κg ?_ | refine κa ?_ | refine κf ?_ | fail
 all_goals rfl
theorem apV_sl {es:Nat} {L:List (List PV)} {out:PV} {lv:List Nat} {nt:Nat} (h:ApV false es L out lv nt):∃ tl,out= .sl tl es L:=by
 cases h with
 | nil _ _ h=>cases h
 | full=>exact ⟨_,rfl⟩
 | tok=>exact ⟨_,rfl⟩
theorem c41 (nm:Bs) {l:List Tm} (hlen:l.length≤10000) (b:Bool):∀ H,CallOk E0 Tryz.prog 41 [.str nm,slV b 4 (cellsL l)] H (.agg (Tm.mk 3 nm 0 false l).cells) H:=by
 have hA0:ApV false 4 [] (.sl .full 4 []) [] 0:= .full [] _ _ rfl rfl
 obtain ⟨out',lv',nt',hap,hA', -⟩:=hA0.app apT_tm (.slV b 4 (cellsL l)) (cellsL_cellOk _) (fits_of (by simp only [cellsL_length,List.length_nil];omega) (by decide)) (noB_cellsL _)
 rw [List.nil_append] at hA'
 have hco:=apV_cells hA' 3 nm 0
 have hfr:=fun m H=>apV_tm hA' m H 3 nm 0
 simp only [Tm.cells]
 obtain ⟨tl,rfl⟩:=apV_sl hA'
 refine κw tOk fe41.ok (frz3_tm _ _ _ _ _ _ _) ?_
 repeat' first | refine κn ?_ | refine κs ?_ | refine κA ?_ | refine κg ?_ | refine κa ?_ | refine κf ?_ | fail
 exact hfr _ _
theorem tailT (b:Bool) (a:Tm) (r:List Tm):aSlice E0 22 (slV b 4 (cellsL (a :: r))) (some (.int .i64 1)) none none=some (.sl .none 4 (cellsL r)):=by
 have e:E0.T 22=some ⟨.slice 24,1,24,.nils⟩:=by kernel_rfl
 have et:E0.T 24=some ⟨.struct [(0,3),(1,9),(2,3),(3,22)],4,56,.agg [.int .i64 0,.str [],.int .i64 0,.nils]⟩:=by kernel_rfl
 have en:nat? (.int .i64 1)=some 1:=rfl
 rw [show cellsL (a :: r)=a.cells :: cellsL r from rfl,slV_cons]
 simp only [aSlice,e,et,if_true,maxOf,bound,en]
 rw [if_pos (by simp)]
 simp [cutTail]
theorem ref_tuple:∀ {l:List Tm} (_:l≠ []) (_:l.length≤10000) (b:Bool),∀ H,CallOk E0 Tryz.prog 221 [slV b 4 (cellsL l)] H (.agg (tupT l).cells) H:=by
 intro l
 induction l with
 | nil=>intro h;exact absurd rfl h
 | cons a r ih =>
   intro _ hlen b
   cases r with
   | nil =>
     simp only [tupT]
     obtain ⟨k,nm,s,tb,kids⟩:=a
     have hj:=cellsL_get (l:=[Tm.mk k nm s tb kids]) (i:=0) rfl
     simp only [Tm.cells]
     refine κw tOk fe221.ok (frz3_tm _ _ _ _ _ _ _) ?_
     repeat' first | refine κn ?_ | refine κl ?_ | refine κx ?_ | refine κt ?_ | refine κg ?_ | refine κa ?_ | refine κf ?_ | fail
     all_goals first
      | exact frz3_tm _ _ _ _ _ _ _
      | (exfalso;simp [cellsL_length] at hb;done)
   | cons c r =>
     have hc:∀ H,CallOk E0 Tryz.prog 221 [.sl .none 4 (cellsL (c :: r))] H (.agg (tupT (c :: r)).cells) H:=by
      have:=ih (by simp) (by simp at hlen ⊢;omega) true
      rw [show slV true 4 (cellsL (c :: r))= .sl .none 4 (cellsL (c :: r)) from slV_cons _ _ _ _] at this
      exact this
     have ht:=tailT b a (c :: r)
     have hj:(cellsL (a :: c :: r))[0]? = some a.cells:=rfl
     have ha:∀ H,CallOk E0 Tryz.prog 41 [.str [112,97,105,114],.sl .full 4 [a.cells,(tupT (c :: r)).cells]] H (.agg (tupT (a :: c :: r)).cells) H:=fun H=>
      callOk_lift (c41 [112,97,105,114] (l:=[a,tupT (c :: r)]) (by simp) true hNil) (by
       simp only [cellsL]
       rw [slV_cons]
       obtain ⟨k5,m5,s5,b5,q5⟩:=a
       obtain ⟨k6,m6,s6,b6,q6⟩:=tupT (c :: r)
       rfl) (by
       have e:(Tm.mk 3 [112,97,105,114] 0 false [a,tupT (c :: r)]).cells=(tupT (a :: c :: r)).cells:=by
        show [PV.int .i64 3,.str [112,97,105,114],.int .i64 0,slV false 4 (cellsL [a,tupT (c :: r)])]= [PV.int .i64 3,.str [112,97,105,114],.int .i64 0,slV true 4 (cellsL [a,tupT (c :: r)])]
        simp only [cellsL]
        rw [slV_cons,slV_cons]
       rw [e]
       exact frz3_cells _ _ _) H
     have hcl:(cellsL (a :: c :: r)).length=r.length+2:=by simp [cellsL_length]
     generalize cellsL (a :: c :: r)=L at ht hj hcl ⊢
     generalize tupT (a :: c :: r)=T at ha ⊢
     generalize tupT (c :: r)=U at hc ha
     obtain ⟨k,nm,s,tb,kids⟩:=a
     obtain ⟨k5,m5,s5,b5,q5⟩:=T
     obtain ⟨k6,m6,s6,b6,q6⟩:=U
     simp only [Tm.cells] at hc ha hj ⊢
     refine κw tOk fe221.ok (frz3_tm _ _ _ _ _ _ _) ?_
     repeat' first | refine κn ?_ | refine κl ?_ | refine κx ?_ | refine κb ?_ ?_ | refine κg ?_ | refine κd (hc _) ?_ | refine κd (ha _) ?_ | refine κB ?_ | (apply dSl;rfl;rfl;rfl;rfl;rfl;rfl;assumption;exact IsV.any _;rfl) | refine κI ?_ | refine κh ?_ | refine κa ?_ | (apply Wp.drawS tOk follows;kernel_rfl;rfl) | refine κf ?_ | intro hb
     all_goals first
      | exact frz3_tm _ _ _ _ _ _ _
      | (exfalso;rw [hcl] at hb;simp at hb;done)
      | (exfalso;rw [hcl] at hb;simp at hb;omega)
theorem c222 {s:Bs} (hs:s.length≤100000) (hd:dottedB s=true):∀ H,CallOk E0 Tryz.prog 222 [.str s] H (.agg (nameT s).cells) H:=by
 have hc:=c258 hs
 have h4:=(dot_parts hd).1
 have hall:(splitD s).all labelB=true:=by
  unfold dottedB at hd
  simp only [Bool.and_eq_true] at hd
  exact hd.2
 unfold labels71 at hc
 rw [hall] at hc
 unfold nameT
 generalize splitD s=l at hc h4 ⊢
 have hc:∀ H,CallOk E0 Tryz.prog 258 [.str s] H (.tup [.sl .none 1 (partsC l),.bool (decide (l.length≤4))]) H:=hc
 clear hall hd
 rw [show decide (l.length≤4)=true by simpa using h4] at hc
 have hpl:(partsC l).length=l.length:=by simp [partsC]
 refine κw tOk fe222.ok (frz3_cells _ _ _) ?_
 repeat' first | refine κn ?_ | refine κc (hc _) ?_ | refine κt ?_ | refine κg ?_ | refine κa ?_ | fail
 refine Wp.while (fun m tm H => ∃ (i : Nat) (base : TM) (out : PV) (lv : List Nat) (nt : Nat), i + m = l.length ∧ ApV true 4 (cellsL ((l.take i).map fun x => atomT x 4)) out lv nt ∧
   tm=ovr base [(2,.ptr 0 4 0 0),(5,out),(3,.sl .none 1 (partsC l)),(6,.int .i64 (i:Int))]∧H=⟨[.cells 4 [[.int .i64 0,.str [],.int .i64 0,.nils]]],0,lv,nt⟩)
  (fun m tm H hI=> ?_) l.length _ _ ⟨0,_,_,_,_,by omega,.nil _ _ rfl,ovr_mk ⟨rfl,rfl,rfl,rfl,trivial⟩,rfl⟩
 obtain ⟨i,base,out,lv,nt,hi,hA,rfl,rfl⟩:=hI
 by_cases hlt:i < l.length
 · obtain ⟨x, hx⟩ : ∃ x, l[i]? = some x := ⟨l[i], by simp⟩
   have hia:=idxP hx
   have hat:=c223 x
   have hlen1:((l.take i).map fun x=>atomT x 4).length≤4:=by rw [List.length_map,List.length_take];omega
   obtain ⟨out',lv',nt',hap,hA', -⟩:=hA.app apT_tm (.sl .full 4 (cellsL [atomT x 4])) (cellsL_cellOk _) (fits_of (by simp only [cellsL_length,List.length_cons,List.length_nil];omega) (by decide)) (noB_cellsL _)
   rw [← cellsL_append] at hA'
   have hs:((l.take i).map fun x=>atomT x 4) ++ [atomT x 4]=(l.take (i+1)).map fun x=>atomT x 4:=by simp [List.take_add_one,hx]
   rw [hs] at hA'
   rw [cellsL_mk1,atomT_cells] at hap
   rw [atomT_cells] at hat
   repeat' first | refine κn ?_ | refine κc (hat _) ?_ | refine κs ?_ | refine κA ?_ | refine κJ ?_ | refine κb ?_ ?_ | refine κg ?_ | refine κa ?_ | intro hb
   · exact LoopI.go (m - 1) (by omega) ⟨i+1,_,out',lv',nt',by omega,hA',ovr_mk ⟨rfl,rfl,rfl,int_eq (wrap_nat (n:=i+1) (by omega)),trivial⟩,rfl⟩
   · exfalso;rw [hpl] at hb;simp at hb;omega
 · have e : i = l.length := by omega
   subst e
   rw [List.take_length] at hA
   have he:=c257
   obtain ⟨out',lv',nt',hap,hA', -⟩:=hA.app apT_tm (.sl .full 4 (cellsL [endT])) (cellsL_cellOk _) (fits_of (by simp only [cellsL_length,List.length_cons,List.length_nil,List.length_map];omega) (by decide)) (noB_cellsL _)
   rw [← cellsL_append] at hA'
   rw [cellsL_mk1,show endT=atomT [101,110,100] 5 from rfl,atomT_cells] at hap
   rw [atomT_cells] at he
   have ht:∀ H,CallOk E0 Tryz.prog 221 [out'] H (.agg (tupT ((l.map fun x=>atomT x 4) ++ [endT])).cells) H:=fun H=>callOk_lift (ref_tuple (l:=(l.map fun x=>atomT x 4) ++ [endT]) (by simp) (by simp;omega) true hNil) (by simp only [frzGL,hA'.frzG]) (frz3_cells _ _ _) H
   generalize tupT ((l.map fun x=>atomT x 4) ++ [endT])=t at ht ⊢
   obtain ⟨k',nm',s',b',kids'⟩:=t
   simp only [Tm.cells] at ht ⊢
   repeat' first | refine κn ?_ | refine κc (he _) ?_ | refine κc (ht _) ?_ | refine κs ?_ | refine κA ?_ | refine κb ?_ ?_ | refine κg ?_ | refine κa ?_ | refine κf ?_ | intro hb
   · exfalso;rw [hpl] at hb;simp at hb
   · exact frz3_tm _ _ _ _ _ _ _
theorem c224 {l:List Bs} (hs:∀ s,s∈l→s.length≤100000) (hd:∀ s,s∈l→dottedB s=true) (hlen:l.length≤1000) (b:Bool):∀ H,CallOk E0 Tryz.prog 224 [slV b 1 (strC l)] H (.agg (namesT l).cells) H:=by
 unfold namesT
 refine κw tOk fe224.ok (frz3_cells _ _ _) ?_
 repeat' first | refine κn ?_ | refine κg ?_ | refine κa ?_ | fail
 refine Wp.while (fun m tm H => ∃ (i : Nat) (base : TM) (out : PV) (lv : List Nat) (nt : Nat), i + m = l.length ∧ ApV true 4 (cellsL ((l.take i).map nameT)) out lv nt ∧
   tm=ovr base [(0,slV b 1 (strC l)),(2,.ptr 0 4 0 0),(3,out),(4,.int .i64 (i:Int))]∧H=⟨[.cells 4 [[.int .i64 0,.str [],.int .i64 0,.nils]]],0,lv,nt⟩)
  (fun m tm H hI=> ?_) l.length _ _ ⟨0,_,_,_,_,by omega,.nil _ _ rfl,ovr_mk ⟨rfl,rfl,rfl,rfl,trivial⟩,rfl⟩
 obtain ⟨i,base,out,lv,nt,hi,hA,rfl,rfl⟩:=hI
 by_cases hlt:i < l.length
 · obtain ⟨x, hx⟩ : ∃ x, l[i]? = some x := ⟨l[i], by simp⟩
   have hj:=strC_get hx
   have hat:=c222 (hs x (List.mem_of_getElem? hx)) (hd x (List.mem_of_getElem? hx))
   have hlen1:((l.take i).map nameT).length≤1000:=by rw [List.length_map,List.length_take];omega
   obtain ⟨out',lv',nt',hap,hA', -⟩:=hA.app apT_tm (.sl .full 4 (cellsL [nameT x])) (cellsL_cellOk _) (fits_of (by simp only [cellsL_length,List.length_cons,List.length_nil];omega) (by decide)) (noB_cellsL _)
   rw [← cellsL_append] at hA'
   have hs:(l.take i).map nameT ++ [nameT x]=(l.take (i+1)).map nameT:=by simp [List.take_add_one,hx]
   rw [hs] at hA'
   rw [cellsL_mk1] at hap
   generalize nameT x=t at hap hat
   obtain ⟨k',nm',s',b',kids'⟩:=t
   simp only [Tm.cells] at hat hap
   repeat' first | refine κn ?_ | refine κc (hat _) ?_ | refine κs ?_ | refine κA ?_ | refine κl ?_ | refine κx ?_ | refine κb ?_ ?_ | refine κg ?_ | refine κa ?_ | intro hb
   · exact LoopI.go (m - 1) (by omega) ⟨i+1,_,out',lv',nt',by omega,hA',ovr_mk ⟨rfl,rfl,rfl,int_eq (wrap_nat (n:=i+1) (by omega)),trivial⟩,rfl⟩
   · exfalso;rw [strC_len] at hb;simp at hb;omega
 · have e : i = l.length := by omega
   subst e
   rw [List.take_length] at hA
   have he:=c257
   obtain ⟨out',lv',nt',hap,hA', -⟩:=hA.app apT_tm (.sl .full 4 (cellsL [endT])) (cellsL_cellOk _) (fits_of (by simp only [cellsL_length,List.length_cons,List.length_nil,List.length_map];omega) (by decide)) (noB_cellsL _)
   rw [← cellsL_append] at hA'
   rw [cellsL_mk1,show endT=atomT [101,110,100] 5 from rfl,atomT_cells] at hap
   rw [atomT_cells] at he
   have ht:∀ H,CallOk E0 Tryz.prog 221 [out'] H (.agg (tupT (l.map nameT ++ [endT])).cells) H:=fun H=>callOk_lift (ref_tuple (l:=l.map nameT ++ [endT]) (by simp) (by simp;omega) true hNil) (by simp only [frzGL,hA'.frzG]) (frz3_cells _ _ _) H
   generalize tupT (l.map nameT ++ [endT])=t at ht ⊢
   obtain ⟨k',nm',s',b',kids'⟩:=t
   simp only [Tm.cells] at ht ⊢
   repeat' first | refine κn ?_ | refine κc (he _) ?_ | refine κc (ht _) ?_ | refine κs ?_ | refine κA ?_ | refine κl ?_ | refine κb ?_ ?_ | refine κg ?_ | refine κa ?_ | refine κf ?_ | intro hb
   · exfalso;rw [strC_len] at hb;simp at hb
   · exact frz3_tm _ _ _ _ _ _ _
theorem c163 {x:Cred} (h:CredOk x) (h1:x.sub.length≤100000) (hp:∀ s,s∈x.per→s.length≤100000) (he:∀ s,s∈x.exc→s.length≤100000):∀ H,CallOk E0 Tryz.prog 163 [.agg x.cells] H (.agg x.body.cells) H:=by
 have ct:∀ H,CallOk E0 Tryz.prog 221 [.sl .full 4 (cellsL x.bodyL)] H (.agg x.body.cells) H:=fun H=>callOk_lift (ref_tuple (l:=x.bodyL) (by simp [Cred.bodyL]) (by simp [Cred.bodyL]) true hNil) (by
  simp only [Cred.bodyL,cellsL]
  rw [slV_cons]
  rfl) (frz3_cells _ _ _) H
 obtain ⟨sub,key,iss,pn,per,en,exc,ser,fr,till⟩:=x
 obtain ⟨d1,d2,d3,l1,l2,⟨n1,n2⟩,⟨n3,n4⟩,n5,n6⟩:=h
 simp only at h1 hp he d1 d2 d3 l1 l2 n1 n2 n3 n4 n5 n6
 have c1:=c222 h1 d1
 have c2:=c224 hp d2 (by omega) pn
 have c3:=c224 he d3 (by omega) en
 have c4:=c225 n1 n2
 have c5:=c225 n3 n4
 have c6:=c225 n5 n6
 have ca:=c42 [99,101,114,116] 5
 have cf:=c223 (flagN iss)
 generalize hB:Cred.body ⟨sub,key,iss,pn,per,en,exc,ser,fr,till⟩=B at ct ⊢
 clear hB
 simp only [Cred.bodyL,cellsL,numT] at ct
 simp only [numT] at c4 c5 c6
 simp only [atomT_cells] at ct c4 c5 c6 ca cf
 generalize nameT sub=t1 at ct c1
 generalize namesT per=t2 at ct c2
 generalize namesT exc=t3 at ct c3
 generalize Lib.itoa ser=s1 at ct c4
 generalize Lib.itoa fr=s2 at ct c5
 generalize Lib.itoa till=s3 at ct c6
 obtain ⟨k1,m1,s1',b1,q1⟩:=t1
 obtain ⟨k2,m2,s2',b2,q2⟩:=t2
 obtain ⟨k3,m3,s3',b3,q3⟩:=t3
 obtain ⟨k4,m4,s4',b4,q4⟩:=key
 obtain ⟨k5,m5,s5',b5,q5⟩:=B
 simp only [Tm.cells] at ct c1 c2 c3
 simp only [Cred.cells,Tm.cells,List.cons_append,List.nil_append]
 cases iss
 all_goals
  simp only [flagN,Bool.false_eq_true,if_false,if_true] at ct cf
  refine κw tOk fe163.ok (frz3_tm _ _ _ _ _ _ _) ?_
  repeat' first | refine κn ?_ | refine κt ?_ | refine κg ?_ | (apply dCl;rfl;rfl;rfl;rfl;rfl;first | exact ca _ | exact c1 _ | exact cf _ | exact c2 _ | exact c3 _ | exact c4 _ | exact c5 _ | exact c6 _ | exact ct _) | refine κB ?_ | refine κh ?_ | refine κa ?_ | (apply Wp.drawS tOk follows;kernel_rfl;rfl) | refine κf ?_ | fail
  all_goals exact frz3_tm _ _ _ _ _ _ _
theorem c79 (x : Cred) {key : Tm} (h1 : x.sub.length ≤ 100000) (hp : ∀ s, s ∈ x.per → s.length ≤ 100000) (he : ∀ s, s ∈ x.exc → s.length ≤ 100000) (hpl : x.per.length ≤ 100000) (hel : x.exc.length ≤ 100000)
  (hk:x.key.Ok) (hks:x.key.size≤40000) (hk2:key.Ok) (hks2:key.size≤40000):∀ H,CallOk E0 Tryz.prog 79 [.agg x.cells,.agg key.cells] H (.tup [.agg (x.issue key).1.cells,.int .i64 (x.issue key).2]) H:=by
 have c1:=c161 x h1 hk (by omega) hp he hpl hel
 have c2:=c162 hk2 (by omega)
 have hfz:=frz3_te 0 hNil Tm.zero
 unfold Cred.issue
 by_cases v1:x.valid=0
 · rw [if_neg (not_not_intro v1)]
   rw [v1] at c1
   by_cases v2:key.key=0
   · rw [if_neg (not_not_intro v2)]
     rw [v2] at c2
     have hok:=cred_ok v1
     have c3:=c163 hok h1 hp he
     have c4:=c50 (term_ok hok hk hk2) (by have:=term_size (key:=key) hok;omega)
     have c5:∀ H,CallOk E0 Tryz.prog 41 [.str [115,105,103,110],.sl .full 4 [x.body.cells,key.cells]] H (.agg (x.term key).cells) H:=fun H=>
      callOk_lift (c41 [115,105,103,110] (l:=[x.body,key]) (by simp) true hNil) (by
       simp only [cellsL]
       rw [slV_cons]
       obtain ⟨k5,m5,s5,b5,q5⟩:=x.body
       obtain ⟨k6,m6,s6,b6,q6⟩:=key
       rfl) (by
       have e:(Tm.mk 3 [115,105,103,110] 0 false [x.body,key]).cells=(x.term key).cells:=by
        show [PV.int .i64 3,.str [115,105,103,110],.int .i64 0,slV false 4 (cellsL [x.body,key])]= [PV.int .i64 3,.str [115,105,103,110],.int .i64 0,slV true 4 (cellsL [x.body,key])]
        simp only [cellsL]
        rw [slV_cons,slV_cons]
       rw [e]
       exact frz3_cells _ _ _) H
     have hfr:=frz3_te 0 hNil (if (x.term key).valid≠0 then (Tm.zero,(x.term key).valid) else (x.term key,0)).1 (if (x.term key).valid≠0 then (Tm.zero,(x.term key).valid) else (x.term key,0)).2
     generalize x.term key=T at c4 c5 hfr ⊢
     generalize T.valid=e at c4 hfr ⊢
     generalize x.body=B at c3 c5
     clear hp he hpl hel hks hks2 hk hk2 h1 v1 v2 hok
     have hft:=fun m H=>frz3_te m H T 0
     obtain ⟨k7,m7,s7,b7,q7⟩:=T
     obtain ⟨k5,m5,s5,b5,q5⟩:=B
     obtain ⟨k6,m6,s6,b6,q6⟩:=key
     obtain ⟨sub,⟨k4,m4,s4,b4,q4⟩,iss,pn,per,en,exc,ser,fr,till⟩:=x
     simp only [Tm.cells] at c2 c3 c4 c5 hft
     simp only [Cred.cells,Tm.cells,List.cons_append,List.nil_append] at c1 c3 ⊢
     refine callOk_wp (own:=fun d=>Nat.beq d 30006) tOk fe79.ok (by simp only [frzGL,frzG,frzL,frz1_slV];rfl) hfr ?_
     refine Wp.seq ?_
     repeat' first | refine κn ?_ | (apply qCl;rfl;rfl;rfl;rfl;first | exact c1 _ | exact c2 _ | exact c4 _) | refine κt ?_ | refine κb ?_ ?_ | refine κg ?_ | refine κd (c3 _) ?_ | refine κd (c5 _) ?_ | (apply dAl;rfl;rfl;rfl;rfl;exact IsV.ptrM;exact IsH.mkN) | refine κB ?_ | refine κh ?_ | refine κa ?_ | (apply dWB tOk follows;rfl;kernel_rfl;rfl;exact IsH.mkN) | refine κf ?_ | intro hb
     · rw [if_pos (by simpa using hb), zero_cells]
       rfl
     · rw [if_neg (by simpa using hb)]
       exact hft _ _
   · rw [if_pos v2]
     generalize key.key=e at c2 v2 ⊢
     clear hp he hpl hel hks hks2 hk hk2 h1 v1
     have hfr:=hfz e
     obtain ⟨k6,m6,s6,b6,q6⟩:=key
     obtain ⟨sub,⟨k4,m4,s4,b4,q4⟩,iss,pn,per,en,exc,ser,fr,till⟩:=x
     simp only [Tm.cells] at c2
     simp only [Cred.cells,Tm.cells,List.cons_append,List.nil_append] at c1 ⊢
     refine κw tOk fe79.ok hfr ?_
     repeat' first | refine κn ?_ | refine κc (c1 _) ?_ | refine κc (c2 _) ?_ | refine κt ?_ | refine κb ?_ ?_ | refine κg ?_ | refine κh ?_ | refine κa ?_ | (apply dWB tOk follows;rfl;kernel_rfl;rfl;exact IsH.mkN) | refine κf ?_ | intro hb
     all_goals first
      | (exfalso;simp at hb;exact v2 hb)
      | (rw [zero_cells];rfl)
 · rw [if_pos v1]
   generalize x.valid=e at c1 v1 ⊢
   clear hp he hpl hel hks hks2 hk hk2 h1 c2
   have hfr:=hfz e
   obtain ⟨k6,m6,s6,b6,q6⟩:=key
   obtain ⟨sub,⟨k4,m4,s4,b4,q4⟩,iss,pn,per,en,exc,ser,fr,till⟩:=x
   simp only [Cred.cells,Tm.cells,List.cons_append,List.nil_append] at c1 ⊢
   refine κw tOk fe79.ok hfr ?_
   repeat' first | refine κn ?_ | refine κc (c1 _) ?_ | refine κb ?_ ?_ | refine κg ?_ | refine κa ?_ | refine κf ?_ | intro hb
   all_goals first
    | (exfalso;simp at hb;exact v1 hb)
    | (rw [zero_cells];rfl)
end Go.Vm.Seat
