/-
  The key of a name in a log, by the reference.
-/
import Derived.Test.YtpgfeijkfmgnjaaGreatDoorGj
set_option maxHeartbeats 0
set_option maxRecDepth 100000
namespace Go.Vm.Seat
variable {l:List Tm} {j k:Nat} {name:Bs} {t:Tm}
open Go.Proofs
theorem Zq8 (l:List Tm) (k:Nat):(Za l).take k=Za (l.take k):=by
 induction l generalizing k with
 |nil=>simp [Za]
 | cons a r ih =>
   cases k with
   | zero=>simp [Za]
   | succ k=>simp only [Za,List.take_succ_cons,ih]
theorem Zrl (l:List Tm) (k:Nat):(Za l).drop k=Za (l.drop k):=by
 induction l generalizing k with
 |nil=>simp [Za]
 | cons a r ih =>
   cases k with
   | zero=>simp [Za]
   | succ k=>simp only [Za,List.drop_succ_cons,ih]
theorem slT (b:Bool) (h:l≠ []):slV b 4 (Za l)= .sl .none 4 (Za l):=by
 cases l with
 |nil=>exact absurd rfl h
 |cons a r=>simp only [Za,Zw]
theorem Zik (k:Nat):nat? (.int .i64 (k:Int))=some k:=by
 simp [nat?]
theorem Zo3 (b:Bool) (h:l≠ []) (hk:k≤l.length):ZW E0 24 (slV b 4 (Za l)) none (some (.int .i64 (k:Int))) none=some (.sl .none 4 (Za (l.take k))):=by
 have e:E0.T 24=some ⟨.slice 26,1,24,.nils⟩:=by kernel_rfl
 have et:E0.T 26=some ⟨.struct [(0,3),(1,9),(2,3),(3,24)],4,56,.agg [.int .i64 0,.str [],.int .i64 0,.nils]⟩:=by kernel_rfl
 rw [slT b h, ← Zq8]
 simp only [ZW,e,et,if_true,U3,Xa,Zik]
 rw [if_pos (by simp [Zb];omega)]
 simp [ZaZ]
theorem Zpm (b:Bool) (h:l≠ []) (hk:k≤l.length):ZW E0 24 (slV b 4 (Za l)) (some (.int .i64 (k:Int))) none none=some (.sl .none 4 (Za (l.drop k))):=by
 have e:E0.T 24=some ⟨.slice 26,1,24,.nils⟩:=by kernel_rfl
 have et:E0.T 26=some ⟨.struct [(0,3),(1,9),(2,3),(3,24)],4,56,.agg [.int .i64 0,.str [],.int .i64 0,.nils]⟩:=by kernel_rfl
 rw [slT b h, ← Zrl]
 simp only [ZW,e,et,if_true,U3,Xa,Zik]
 rw [if_pos (by simp [Zb];omega)]
 simp [ZaZ]
def Zlu:List Tm→Int
 | []=>0
 |t::r=>if t.valid≠0 then t.valid else Zlu r
def ZbD (l:List Tm):Int:=if 32<l.length then 3 else Zlu l
theorem c212 (hl:∀ t,t∈l→t.Ok∧t.size≤1000000) (b:Bool):∀ H,CallOk E0 Tryz.prog 212 [slV b 4 (Za l)] H (.int .i64 (ZbD l)) H:=by
 have h1:=Zb l
 refine Jw tOk fe212.ok rfl ?_
 by_cases hlen:32<l.length
 · have hg : ZP E0 .gtr 3 (.int .i64 ((Za l).length : Int)) (.int .i64 32) = some (.bool true) := Ze3 (by omega)
   simp only [ZbD,if_pos hlen]
   repeat' first|refine Ji ?_|refine Jl ?_|refine Jo ?_|fail
   all_goals rfl
 have hg:ZP E0 .gtr 3 (.int .i64 ((Za l).length:Int)) (.int .i64 32)=some (.bool false):=ZdX (by omega)
 simp only [ZbD,if_neg hlen]
 repeat' first|refine Ji ?_|refine Jl ?_|refine Jo ?_|fail
 clear hg
 refine Wp.while (fun k tm H=>∃ (i:Nat) (base:TM),i+k=l.length∧Zlu l=Zlu (l.drop i)∧tm=ovr base [(0,slV b 4 (Za l)),(3,.int .i64 (i:Int))]∧H=⟨[],0,[],0⟩)
  (fun k tm H hI=>?_) l.length _ _ ⟨0,_,by omega,by simp,Zi ⟨rfl,rfl,trivial⟩,rfl⟩
 obtain ⟨i,base,hi,hI,rfl,rfl⟩:=hI
 by_cases hlt:i<l.length
 · obtain ⟨t', ht'⟩ : ∃ t', l[i]? = some t' := ⟨l[i], by simp⟩
   have m1:=hl t' (List.mem_of_getElem? ht')
   have hc:=ZlD m1.1 (by omega)
   rw [Z0 ht'] at hI
   simp only [Zlu] at hI
   have hlx:ZP E0 .lss 3 (.int .i64 (i:Int)) (.int .i64 ((Za l).length:Int))=some (.bool true):=X3 (by omega)
   generalize t'.valid=e at hc hI
   have be:=YF e
   obtain ⟨k',nm',s',b',kz'⟩:=t'
   have hj1:=Zn ht'
   simp only [Tm.cells] at hc
   by_cases he:e=0
   · rw [decide_eq_false (not_not_intro he)] at be
     rw [if_neg (not_not_intro he)] at hI
     repeat' first|refine Jc (hc _) ?_|refine Ji ?_|refine Jl ?_|refine Jx ?_|refine Jo ?_|fail
     exact LoopI.go (k-1) (by omega) ⟨i+1,_,by omega,hI,Zi ⟨rfl,Zj (Zg (n:=i+1) (by omega)),trivial⟩,rfl⟩
   · rw [decide_eq_true he] at be
     rw [if_pos he] at hI
     rw [hI]
     repeat' first|refine Jc (hc _) ?_|refine Ji ?_|refine Jl ?_|refine Jx ?_|refine Jo ?_|fail
     all_goals rfl
 · have e : i = l.length := by omega
   subst e
   rw [List.drop_length] at hI
   rw [hI]
   have hlx:ZP E0 .lss 3 (.int .i64 (l.length:Int)) (.int .i64 ((Za l).length:Int))=some (.bool false):=Xo (by omega)
   repeat' first|refine Ji ?_|refine Jl ?_|refine Jo ?_|fail
   all_goals rfl
def Zb8:Tm:= .mk 3 WD 0 true [Wd [110,111,110,101]]
def Zr:Nat→List Tm→Tm
 |0,_=> .zero
 | f + 1, l => match l with
   | []=>Zb8
   | [t]=>X6 t
   | a::b::r=>YL (Zr f ((a::b::r).take (Zd (r.length+2)))) (Zr f ((a::b::r).drop (Zd (r.length+2))))
theorem Xw {S:Nat}:∀ (f:Nat) {l:List Tm},l.length≤f→(∀ t,t∈l→t.Ok∧t.size≤S)→(Zr (f+1) l).Ok∧(Zr (f+1) l).size+8≤(max l.length 1)*(S+11)
 |f,[],_,_=>⟨ok1 (by decide) (Ziw (by decide)),by show 2+8≤_;simp⟩
 | f, [t], _, hl => by
   obtain ⟨h1,h2⟩:=hl t (by simp)
   refine ⟨Zgj h1,?_⟩
   show (X6 t).size+8≤_
   rw [Zf0]
   simp
   omega
 |0,a::b::r,hf,_=>by simp at hf
 | f + 1, a :: b :: r, hf, hl => by
   have hp:=Y8 (r.length+2)
   have hh:=XG (n:=r.length+2) (by omega)
   have e1:((a::b::r).take (Zd (r.length+2))).length=Zd (r.length+2):=by simp only [List.length_take,List.length_cons];omega
   have e2:((a::b::r).drop (Zd (r.length+2))).length=r.length+2-Zd (r.length+2):=by simp only [List.length_drop,List.length_cons]
   simp only [List.length_cons] at hf
   obtain ⟨x1,x2⟩:=Xw (S:=S) f (l:=(a::b::r).take (Zd (r.length+2))) (by omega) fun t ht=>hl t (List.mem_of_mem_take ht)
   obtain ⟨y1,y2⟩:=Xw (S:=S) f (l:=(a::b::r).drop (Zd (r.length+2))) (by omega) fun t ht=>hl t (List.mem_of_mem_drop ht)
   refine ⟨VG x1 y1,?_⟩
   show (YL _ _).size+8≤_
   rw [UR]
   rw [e1,Nat.max_eq_left hp] at x2
   rw [e2,Nat.max_eq_left (by omega)] at y2
   have e3:Zd (r.length+2)*(S+11)+(r.length+2-Zd (r.length+2))*(S+11)=(max (a::b::r).length 1)*(S+11):=by
    rw [← Nat.add_mul,Nat.max_eq_left (by simp)]
    congr 1
    simp only [List.length_cons]
    omega
   omega
theorem ZqV (nm:Bs) (x:Tm):∀ H,CallOk E0 Tryz.prog 38 [.str nm,.sl .full 4 [x.cells]] H (.agg (Tm.mk 3 nm 0 true [x]).cells) H:=Zmx nm x
theorem c213:∀ (f:Nat) {l:List Tm},l.length≤f→l.length≤32→∀ (b:Bool),∀ H,CallOk E0 Tryz.prog 213 [slV b 4 (Za l)] H (.agg (Zr (f+1) l).cells) H
 | f, [], _, _ => by
   intro b
   have h1:=Zpe [110,111,110,101]
   have h2:=ZqV WD (Wd [110,111,110,101])
   have e:Zr (f+1) []=Zb8:=rfl
   have e2:Tm.mk 3 WD 0 true [Wd [110,111,110,101]]=Zb8:=rfl
   have hfr:=Zz 0 hNil Zb8
   rw [e2] at h2
   rw [e]
   generalize Zb8=R at h2 hfr ⊢
   generalize Wd [110,111,110,101]=G at h1 h2
   obtain ⟨k1,nm1,s1,b1,kz1⟩:=R
   obtain ⟨k2,nm2,s2,b2,kz2⟩:=G
   simp only [Tm.cells,Za] at h1 h2 hfr ⊢
   cases b<;>simp only [Zq,Yd]
   all_goals
    refine Jw tOk fe213.ok hfr ?_
    repeat' first|refine Jc (h1 _) ?_|refine Jc (h2 _) ?_|refine Js ?_|refine Jt ?_|refine Jo ?_|fail
   all_goals exact Z6 _ _ _ _ _ _ _
 | f, [t], _, _ => by
   intro b
   have h1:=Zvc t
   have e:Zr (f+1) [t]=X6 t:=rfl
   have hj:(Za [t])[0]? = some t.cells:=rfl
   have hl:=Zb [t]
   have hfr:=Zz 0 hNil (X6 t)
   have b0:ZP E0 .eql 3 (.int .i64 ((Za [t]).length:Int)) (.int .i64 0)=some (.bool false):=VC (by rw [hl];simp)
   have b1:ZP E0 .eql 3 (.int .i64 ((Za [t]).length:Int)) (.int .i64 1)=some (.bool true):=ZbX (by rw [hl];simp)
   rw [e]
   generalize Za [t]=L at hj hl b0 b1 ⊢
   generalize X6 t=R at h1 hfr ⊢
   obtain ⟨k1,nm1,s1,tb1,kz1⟩:=R
   obtain ⟨k2,nm2,s2,tb2,kz2⟩:=t
   simp only [Tm.cells] at h1 hfr hj ⊢
   refine Jw tOk fe213.ok hfr ?_
   repeat' first|refine Jc (h1 _) ?_|refine Ji ?_|refine Jl ?_|refine Jx ?_|refine Jo ?_|fail
   all_goals exact Z6 _ _ _ _ _ _ _
 |0,a::c::r,hf,_=>by simp at hf
 | f + 1, a :: c :: r, hf, h32 => by
   intro b
   have hne:a::c::r≠ []:=by simp
   have hlen:(a::c::r).length=r.length+2:=rfl
   have hp:=Y8 (r.length+2)
   have hh:=XG (n:=r.length+2) (by omega)
   rw [hlen] at hf h32
   have hs:=Ztq h32
   have t1:=Zo3 b hne (k:=Zd (r.length+2)) (by rw [hlen];omega)
   have t2:=Zpm b hne (k:=Zd (r.length+2)) (by rw [hlen];omega)
   have x1:=c213 f (l:=(a::c::r).take (Zd (r.length+2))) (by simp only [List.length_take,List.length_cons];omega) (by simp only [List.length_take,List.length_cons];omega) false
   have x2:=c213 f (l:=(a::c::r).drop (Zd (r.length+2))) (by simp only [List.length_drop,List.length_cons];omega) (by simp only [List.length_drop,List.length_cons];omega) false
   rw [Z1] at x1 x2
   have hN:=Zvt (Zr (f+1) ((a::c::r).take (Zd (r.length+2)))) (Zr (f+1) ((a::c::r).drop (Zd (r.length+2))))
   have e:Zr (f+1+1) (a::c::r)=YL (Zr (f+1) ((a::c::r).take (Zd (r.length+2)))) (Zr (f+1) ((a::c::r).drop (Zd (r.length+2)))):=rfl
   rw [e]
   generalize Zr (f+1) ((a::c::r).take (Zd (r.length+2)))=X at x1 hN ⊢
   generalize Zr (f+1) ((a::c::r).drop (Zd (r.length+2)))=Y at x2 hN ⊢
   have hl:=Zb (a::c::r)
   rw [hlen] at hl
   have b0:ZP E0 .eql 3 (.int .i64 ((Za (a::c::r)).length:Int)) (.int .i64 0)=some (.bool false):=VC (by rw [hl];omega)
   have b1:ZP E0 .eql 3 (.int .i64 ((Za (a::c::r)).length:Int)) (.int .i64 1)=some (.bool false):=VC (by rw [hl];omega)
   have hs:∀ H,CallOk E0 Tryz.prog 251 [.int .i64 ((Za (a::c::r)).length:Int)] H (.int .i64 (Zd (r.length+2):Int)) H:=by
    rw [hl]
    exact hs
   have hfr:=Zz 0 hNil (YL X Y)
   generalize Za (a::c::r)=L at t1 t2 hl b0 b1 hs ⊢
   generalize Za ((a::c::r).take (Zd (r.length+2)))=L1 at t1 x1
   generalize Za ((a::c::r).drop (Zd (r.length+2)))=L2 at t2 x2
   generalize YL X Y=R at hN hfr ⊢
   obtain ⟨k1,nm1,s1,tb1,kz1⟩:=R
   obtain ⟨k2,nm2,s2,tb2,kz2⟩:=X
   obtain ⟨k3,nm3,s3,tb3,kz3⟩:=Y
   simp only [Tm.cells] at x1 x2 hN hfr ⊢
   refine Jw tOk fe213.ok hfr ?_
   repeat' first|refine Jc (hs _) ?_|refine Ji ?_|refine Jl ?_|refine Jo ?_|(apply dCl;rfl;rfl;rfl;rfl;rfl;first|exact x1 _|exact x2 _|exact hN _)|(apply dSl;rfl;rfl;rfl;rfl;rfl;rfl;assumption;exact IsV.any _;rfl)|refine Jh ?_|(apply Wp.drawS tOk follows;kernel_rfl;rfl)|fail
   all_goals exact Z6 _ _ _ _ _ _ _
def Zy (l:List Tm):Tm×Int:=if ZbD l≠0 then (.zero,ZbD l) else if (Zr 33 l).valid≠0 then (.zero,3) else (Zr 33 l,0)
theorem VZ (h:ZbD l=0):l.length≤32:=by
 unfold ZbD at h
 split at h
 · cases h
 · omega
theorem Qz {S:Nat} (hl:∀ t,t∈l→t.Ok∧t.size≤S):(Zy l).1.Ok∧(Zy l).1.size≤32*(S+11):=by
 have hz:Tm.zero.Ok∧Tm.zero.size≤32*(S+11):=⟨Tm.ok_zero,by simp [Tm.zero,Tm.size,Zx];omega⟩
 unfold Zy
 split; · exact hz
 split; · exact hz
 rename_i h _
 have h:=VZ (Classical.not_not.1 h)
 obtain ⟨a,b⟩:=Xw (S:=S) 32 h hl
 refine ⟨a,?_⟩
 have:=Nat.mul_le_mul_right (S+11) (show max l.length 1≤32 by omega)
 have b:(Zr 33 l).size+8≤max l.length 1*(S+11):=b
 show (Zr 33 l).size≤_
 omega
theorem Zvs (hl:∀ t,t∈l→t.Ok∧t.size≤2000) (b:Bool):∀ H,CallOk E0 Tryz.prog 169 [slV b 4 (Za l)] H (.tup [.agg (Zy l).1.cells,.int .i64 (Zy l).2]) H:=by
 have c1:=c212 (fun t ht=>⟨(hl t ht).1,by have:=(hl t ht).2;omega⟩) b
 have be:=YF (ZbD l)
 have hfz:=Yr 0 hNil Tm.zero
 unfold Zy
 by_cases he:ZbD l=0
 · rw [he] at c1 be
   rw [if_neg (not_not_intro he)]
   have hlen:=VZ he
   have c2:=c213 32 hlen hlen b
   obtain ⟨h1,h2⟩:=Xw (S:=2000) 32 hlen hl
   have h3:=Nat.mul_le_mul_right (2000+11) (show max l.length 1≤32 by omega)
   have c3:=Zsa h1 (by omega)
   have hft:=fun m H=>Yr m H (Zr 33 l) 0
   have hfr:=Yr 0 hNil (Zr 33 l) 0
   show ∀ H,CallOk E0 Tryz.prog _ _ H (.tup [.agg (if (Zr 33 l).valid≠0 then (Tm.zero,(3:Int)) else (Zr 33 l,0)).1.cells,.int .i64 (if (Zr 33 l).valid≠0 then (Tm.zero,(3:Int)) else (Zr 33 l,0)).2]) H
   clear h1 h2 h3
   generalize Zr 33 l=X at c2 c3 hft hfr ⊢
   generalize X.valid=e at c3 ⊢
   obtain ⟨k2,nm2,s2,tb2,kz2⟩:=X
   simp only [Tm.cells] at c2 c3 hft hfr ⊢
   by_cases hv:e=0
   · rw [if_neg (not_not_intro hv)] at c3 ⊢
     refine Jw tOk fe169.ok hfr ?_
     repeat' first|(apply qCl;rfl;rfl;rfl;rfl;first|exact c1 _|exact c2 _|exact c3 _)|refine Ji ?_|refine Jo ?_|fail
     all_goals exact hft _ _
   · rw [if_pos hv] at c3 ⊢
     refine Jw tOk fe169.ok (hfz _) ?_
     repeat' first|(apply qCl;rfl;rfl;rfl;rfl;first|exact c1 _|exact c2 _|exact c3 _)|refine Ji ?_|refine Jt ?_|refine Jo ?_|fail
     all_goals (rw [Zk];rfl)
 · rw [decide_eq_true he] at be
   rw [if_pos he]
   generalize ZbD l=e at c1 be ⊢
   have hfr:=hfz e
   refine Jw tOk fe169.ok hfr ?_
   repeat' first|refine Jc (c1 _) ?_|refine Ji ?_|refine Jo ?_|fail
   all_goals (rw [Zk];rfl)
theorem ZjF (h:l[j]? = some t):UJ name (l.take (j+1)).reverse=if (Zf t).2=0∧(Zf t).1.sub=name then some ((Zf t).1.key,(Zf t).1.till) else UJ name (l.take j).reverse:=by
 have e:l.take (j+1)=l.take j++ [t]:=by
  rw [List.take_add_one,h]
  rfl
 rw [e,List.reverse_append]
 rfl
theorem Zmv (h1 : ¬ 32 < l.length) (h2 : ZB name = true) : Zbf l name = match UJ name l.reverse with
  | none=>(Tm.zero,4)
  | some (k,e)=>if e=0 then (Tm.zero,4) else (k.cl,0):=by
 unfold Zbf Znc
 rw [if_neg h1,if_neg (by rw [h2];simp)]
 cases UJ name l.reverse with
 |none=>rfl
 | some p =>
   obtain ⟨k,e⟩:=p
   by_cases he:e=0
   · simp only [if_pos he];rfl
   · simp only [if_neg he]
theorem c8 (hok:∀ t,t∈l→t.Ok) (hs:∀ t,t∈l→t.size≤900) (hll:l.length≤40) (hn:name.length≤100) (b:Bool):∀ H,CallOk E0 Tryz.prog 8 [slV b 4 (Za l),.str name] H (.tup [.agg (Zbf l name).1.cells,.int .i64 (Zbf l name).2]) H:=by
 have hw:=Ze4 (s:=name) (by omega)
 have hfr:=Yr 0 hNil (Zbf l name).1 (Zbf l name).2
 refine Zm (own:=fun _=>false) tOk fe8.ok (by simp only [ZJ,Yy];rfl) hfr ?_
 clear hfr
 refine Wp.seq ?_
 have b0:ZP E0 .gtr 3 (.int .i64 ((Za l).length:Int)) (.int .i64 32)=some (.bool (decide (32<l.length))):=by
  show some (PV.bool (decide ((32:Int)<((Za l).length:Int))))=_
  rw [Zb]
  simp
  omega
 by_cases h1:32<l.length
 · rw [decide_eq_true h1] at b0
   have hr:Zbf l name=(Tm.zero,3):=by unfold Zbf Znc;rw [if_pos h1];rfl
   rw [hr,Zk]
   repeat' first|refine Jk ?_|refine Ji ?_|refine JJ ?_|refine Jl ?_|refine Jx ?_|refine Jt ?_|refine Jb ?_ ?_|refine Jo ?_|intro hb
   all_goals rfl
 · rw [decide_eq_false h1] at b0
   cases hd:ZB name with
   | false =>
     have hr:Zbf l name=(Tm.zero,2):=by unfold Zbf Znc;rw [if_neg h1,if_pos hd];rfl
     rw [hr,Zk]
     rw [hd] at hw
     repeat' first|refine Jk ?_|refine Jc (hw _) ?_|refine Ji ?_|refine JJ ?_|refine Jl ?_|refine Jx ?_|refine Jt ?_|refine Jb ?_ ?_|refine Jo ?_|intro hb
     all_goals rfl
   | true =>
     rw [hd] at hw
     have hr:=Zmv (l:=l) (name:=name) h1 hd
     have b1:ZP E0 .sub 3 (.int .i64 ((Za l).length:Int)) (.int .i64 1)=some (.int .i64 ((l.length:Int)-1)):=by
      show some (PV.int .i64 (IntKind.i64.wrap (((Za l).length:Int)-1)))=_
      rw [Zb,show IntKind.i64.wrap ((l.length:Int)-1)=(l.length:Int)-1 from IntWalk.i64_in _ (by omega)]
     repeat' first|refine Jk ?_|refine Jc (hw _) ?_|refine Ji ?_|refine JJ ?_|refine Jl ?_|refine Jx ?_|refine Jt ?_|refine Jb ?_ ?_|refine Jo ?_|intro hb
     clear b0 b1
     refine Wp.while (fun m tm H=>∃ base:TM,m≤l.length∧UJ name l.reverse=UJ name (l.take m).reverse∧tm=ovr base [(0,slV b 4 (Za l)),(1,.str name),(4,.ptr 0 4 0 0),(6,.int .i64 ((m:Int)-1))]∧H=⟨[.cells 4 [[.int .i64 0,.str [],.int .i64 0,.nils]]],0,[],0⟩)
      (fun m tm H hI=>Wp.drop ?_) l.length _ _ ⟨_,Nat.le_refl _,by rw [List.take_length],Zi ⟨rfl,rfl,rfl,rfl,trivial⟩,rfl⟩
     obtain ⟨base,hm,hgo,rfl,rfl⟩:=hI
     cases m with
     | zero =>
       have b1:ZP E0 .geq 3 (.int .i64 (((0:Nat):Int)-1)) (.int .i64 0)=some (.bool false):=rfl
       rw [hgo] at hr
       rw [hr]
       show Wp _ _ _ _ _ _ _ _
       rw [List.take_zero,List.reverse_nil,UJ]
       simp only [Zk]
       repeat' first|refine Jk ?_|refine Ji ?_|refine JJ ?_|refine Jl ?_|refine Jx ?_|refine Jt ?_|refine Jb ?_ ?_|refine Jo ?_|intro hb
       all_goals rfl
     | succ j =>
       obtain ⟨t,ht⟩:∃ t,l[j]? = some t:=⟨l[j],by simp⟩
       have e1:(((j+1:Nat):Int)-1)=(j:Int):=by omega
       rw [e1]
       have hj:(Za l)[j]? = some t.cells:=by
        obtain ⟨k,nm,s,tb,kz⟩:=t
        exact Zn ht
       have hmem:=List.mem_of_getElem? ht
       have hc:=c24 (hok t hmem) (by have:=hs t hmem;omega)
       have b1:ZP E0 .geq 3 (.int .i64 (j:Int)) (.int .i64 0)=some (.bool true):=by
        show some (PV.bool (decide ((0:Int)≤(j:Int))))=_
        simp
       have b2:ZP E0 .sub 3 (.int .i64 (j:Int)) (.int .i64 1)=some (.int .i64 ((j:Int)-1)):=by
        show some (PV.int .i64 (IntKind.i64.wrap ((j:Int)-1)))=_
        rw [show IntKind.i64.wrap ((j:Int)-1)=(j:Int)-1 from IntWalk.i64_in _ (by omega)]
       rw [ZjF ht] at hgo
       have hkey:(Zf t).1.key.Ok∧(Zf t).1.key.size≤900:=by
        rcases VQ t with e|⟨_,_,e,_⟩
        · rw [e];exact ⟨Tm.ok_zero,by decide⟩
        · exact ⟨(hok t hmem).part e,by have:=e.1;have:=hs t hmem;omega⟩
       have hcp:=c20 hkey.1 (by omega)
       generalize (Zf t).2=e at hc hgo
       generalize (Zf t).1=X at hc hgo hcp
       clear hkey hmem ht
       obtain ⟨k,nm,s,tb,kz⟩:=t
       obtain ⟨sub,⟨k4,m4,s4,t4,q4⟩,iss,pn,per,en,exc,ser,fr,till⟩:=X
       simp only [Cred.cells,Tm.cells,List.cons_append,List.nil_append] at hc hj hcp
       have hco:[slV t4 4 (Za q4),slV pn 1 (Y2 per),slV en 1 (Y2 exc)].all Z7=true:=by simp only [List.all_cons,List.all_nil,Ya,Bool.and_self]
       by_cases he:e=0
       · subst he
         have b3:ZP E0 .neq 30 (.int .i64 0) (.int .i64 0)=some (.bool false):=rfl
         by_cases hsn:sub=name
         · rw [if_pos ⟨rfl, hsn⟩] at hgo
           rw [hgo] at hr
           subst hsn
           have b4:ZP E0 .neq 9 (.str sub) (.str sub)=some (.bool false):=by
            show some (PV.bool (!(sub==sub)))=_
            simp
           by_cases htl:till=0
           · subst htl
             have b5:ZP E0 .eql 3 (.int .i64 0) (.int .i64 0)=some (.bool true):=rfl
             have hr:Zbf l sub=(Tm.zero,4):=by rw [hr];simp only [if_true]
             rw [hr,Zk]
             repeat' first|refine Jk ?_|refine Jc (hc _) ?_|refine Ji ?_|refine JJ ?_|refine Jl ?_|refine Jx ?_|refine Jt ?_|refine Jb ?_ ?_|refine Jo ?_|intro hb
             all_goals rfl
           · have b5 : ZP E0 .eql 3 (.int .i64 till) (.int .i64 0) = some (.bool false) := by
               show some (PV.bool (till==0))=_
               simp [htl]
             have hr:Zbf l sub=((Tm.mk k4 m4 s4 t4 q4).cl,0):=by rw [hr];simp only [if_neg htl]
             rw [hr]
             generalize (Tm.mk k4 m4 s4 t4 q4).cl=u at hcp ⊢
             obtain ⟨k',nm',s',b',kz'⟩:=u
             simp only [Tm.cells] at hcp ⊢
             repeat' first|refine Jk ?_|refine Jc (hc _) ?_|refine Jc (hcp _) ?_|refine Ji ?_|refine JJ ?_|refine Jl ?_|refine Jx ?_|refine Jt ?_|refine Jb ?_ ?_|refine Jo ?_|intro hb
             all_goals exact Yr _ _ (.mk k' nm' s' b' kz') 0
         · rw [if_neg (fun h => hsn h.2)] at hgo
           have b4:ZP E0 .neq 9 (.str sub) (.str name)=some (.bool true):=by
            show some (PV.bool (!(sub==name)))=_
            simp [hsn]
           repeat' first|refine Jk ?_|refine Jc (hc _) ?_|refine Ji ?_|refine JJ ?_|refine Jl ?_|refine Jx ?_|refine Jt ?_|refine Jb ?_ ?_|refine Jo ?_|intro hb
           exact DropQ.go [(0,slV b 4 (Za l)),(1,.str name),(4,.ptr 0 4 0 0),(6,.int .i64 ((j:Int)-1))] ⟨rfl,rfl,rfl,rfl,trivial⟩ (by simp [Zl,under]) rfl (by simp [Yw,ZI,under]) (LoopI.go j (by omega) ⟨_,by omega,hgo,rfl,rfl⟩)
       · rw [if_neg (fun h => he h.1)] at hgo
         have b3:ZP E0 .neq 30 (.int .i64 e) (.int .i64 0)=some (.bool true):=by
          show some (PV.bool (e != 0))=_
          simp [he]
         repeat' first|refine Jk ?_|refine Jc (hc _) ?_|refine Ji ?_|refine JJ ?_|refine Jl ?_|refine Jx ?_|refine Jt ?_|refine Jb ?_ ?_|refine Jo ?_|intro hb
         exact DropQ.go [(0,slV b 4 (Za l)),(1,.str name),(4,.ptr 0 4 0 0),(6,.int .i64 ((j:Int)-1))] ⟨rfl,rfl,rfl,rfl,trivial⟩ (by simp [Zl,under]) rfl (by simp [Yw,ZI,under]) (LoopI.go j (by omega) ⟨_,by omega,hgo,rfl,rfl⟩)
def Zt (name:Bs):List Tm→Tm×Nat×Bool
 | []=>(.zero,0,false)
 |t::r=>if (Zf t).2=0∧(Zf t).1.sub=name then ((Zf t).1.key,r.length,decide ((Zf t).1.till≠0)) else Zt name r
theorem Zjg (h:l[j]? = some t):Zt name (l.take (j+1)).reverse=if (Zf t).2=0∧(Zf t).1.sub=name then ((Zf t).1.key,j,decide ((Zf t).1.till≠0)) else Zt name (l.take j).reverse:=by
 have e:l.take (j+1)=l.take j++ [t]:=by
  rw [List.take_add_one,h]
  rfl
 have hj:j<l.length:=(List.getElem?_eq_some_iff.1 h).1
 rw [e,List.reverse_append,List.reverse_singleton,List.singleton_append]
 simp only [Zt,List.length_reverse,List.length_take]
 rw [Nat.min_eq_left (by omega)]
theorem Zjm (name:Bs):∀ l:List Tm,(UJ name l=none∧(Zt name l).2.2=false)∨∃ k e,UJ name l=some (k,e)∧(Zt name l).1=k∧(Zt name l).2.2=decide (e≠0)
 | []=> .inl ⟨rfl,rfl⟩
 | t :: r => by
   simp only [UJ,Zt]
   split
   · exact .inr ⟨_,_,rfl,rfl,rfl⟩
   · exact Zjm name r
theorem Zfb (m:Nat) (H:Heap) (t:Tm) (e:Int) (b:Bool):frz3 m H (.tup [.agg t.cells,.int .i64 e,.bool b])=some (.tup [.agg t.cells,.int .i64 e,.bool b]):=by
 have h:frz2 m H (.agg t.cells)=some (.agg t.cells):=Zz m H t
 show (match YR m H [.agg t.cells,.int .i64 e,.bool b] with|some vs'=>some (PV.tup vs')|none=>none)=_
 simp only [YR,h]
 rfl
theorem c94 (hok:∀ t,t∈l→t.Ok) (hs:∀ t,t∈l→t.size≤900) (hll:l.length≤40) (b:Bool):∀ H,CallOk E0 Tryz.prog 94 [slV b 4 (Za l),.str name] H (.tup [.agg (Zt name l.reverse).1.cells,.int .i64 ((Zt name l.reverse).2.1:Int),.bool (Zt name l.reverse).2.2]) H:=by
 have hfr:=Zfb 0 hNil (Zt name l.reverse).1 (Zt name l.reverse).2.1 (Zt name l.reverse).2.2
 refine Zm (own:=(fun d=>[29999,40272,40296].any (Nat.beq d))) tOk fe94.ok (by simp only [ZJ,Yy];rfl) hfr ?_
 clear hfr
 refine Wp.seq ?_
 have b1:ZP E0 .sub 3 (.int .i64 ((Za l).length:Int)) (.int .i64 1)=some (.int .i64 ((l.length:Int)-1)):=by
  show some (PV.int .i64 (IntKind.i64.wrap (((Za l).length:Int)-1)))=_
  rw [Zb,show IntKind.i64.wrap ((l.length:Int)-1)=(l.length:Int)-1 from IntWalk.i64_in _ (by omega)]
 repeat' first|refine Ji ?_|refine Jl ?_|refine Jt ?_|refine Jo ?_|fail
 clear b1
 refine Wp.while (fun m tm H=>∃ base:TM,m≤l.length∧Zt name l.reverse=Zt name (l.take m).reverse∧tm=ovr base [(0,slV b 4 (Za l)),(1,.str name),(4,.ptr 0 4 0 0),(7,.int .i64 ((m:Int)-1))]∧H=⟨[.cells 4 [[.int .i64 0,.str [],.int .i64 0,.nils]]],0,[],0⟩)
  (fun m tm H hI=>Wp.drop ?_) l.length _ _ ⟨_,Nat.le_refl _,by rw [List.take_length],Zi ⟨rfl,rfl,rfl,rfl,trivial⟩,rfl⟩
 obtain ⟨base,hm,hgo,rfl,rfl⟩:=hI
 cases m with
 | zero =>
   have b1:ZP E0 .geq 3 (.int .i64 (((0:Nat):Int)-1)) (.int .i64 0)=some (.bool false):=rfl
   rw [hgo]
   rw [List.take_zero,List.reverse_nil,Zt]
   simp only [Zk]
   repeat' first|refine Ji ?_|refine Jt ?_|refine Jo ?_|fail
   all_goals rfl
 | succ j =>
   obtain ⟨t,ht⟩:∃ t,l[j]? = some t:=⟨l[j],by simp⟩
   have e1:(((j+1:Nat):Int)-1)=(j:Int):=by omega
   rw [e1]
   have hj:(Za l)[j]? = some t.cells:=by
    obtain ⟨k,nm,s,tb,kz⟩:=t
    exact Zn ht
   have hmem:=List.mem_of_getElem? ht
   have hc:=ZqC (hok t hmem) (by have:=hs t hmem;omega)
   have b1:ZP E0 .geq 3 (.int .i64 (j:Int)) (.int .i64 0)=some (.bool true):=by
    show some (PV.bool (decide ((0:Int)≤(j:Int))))=_
    simp
   have b2:ZP E0 .sub 3 (.int .i64 (j:Int)) (.int .i64 1)=some (.int .i64 ((j:Int)-1)):=by
    show some (PV.int .i64 (IntKind.i64.wrap ((j:Int)-1)))=_
    rw [show IntKind.i64.wrap ((j:Int)-1)=(j:Int)-1 from IntWalk.i64_in _ (by omega)]
   rw [Zjg ht] at hgo
   generalize (Zf t).2=e at hc hgo
   generalize (Zf t).1=X at hc hgo
   clear hmem ht
   obtain ⟨k,nm,s,tb,kz⟩:=t
   obtain ⟨sub,⟨k4,m4,s4,t4,q4⟩,iss,pn,per,en,exc,ser,fr,till⟩:=X
   simp only [Cred.cells,Tm.cells,List.cons_append,List.nil_append] at hc hj
   have hco:[slV t4 4 (Za q4),slV pn 1 (Y2 per),slV en 1 (Y2 exc)].all Z7=true:=by simp only [List.all_cons,List.all_nil,Ya,Bool.and_self]
   by_cases he:e=0
   · subst he
     have b3:ZP E0 .eql 30 (.int .i64 0) (.int .i64 0)=some (.bool true):=rfl
     by_cases hsn:sub=name
     · rw [if_pos ⟨rfl, hsn⟩] at hgo
       rw [hgo]
       subst hsn
       have b4:ZP E0 .eql 9 (.str sub) (.str sub)=some (.bool true):=by
        show some (PV.bool (sub==sub))=_
        simp
       have b5:ZP E0 .neq 3 (.int .i64 till) (.int .i64 0)=some (.bool (decide (till≠0))):=by
        show some (PV.bool (till != 0))=_
        congr 2
        rw [Bool.eq_iff_iff]
        simp
       simp only [Tm.cells]
       repeat' first|refine Jc (hc _) ?_|refine Ji ?_|refine Jx ?_|refine Jt ?_|refine Jo ?_|refine JD ?_|refine Jh ?_|(apply Wp.drawS tOk follows;kernel_rfl;rfl)|fail
       all_goals exact Zfb _ _ (.mk k4 m4 s4 t4 q4) _ _
     · rw [if_neg (fun h => hsn h.2)] at hgo
       have b4:ZP E0 .eql 9 (.str sub) (.str name)=some (.bool false):=by
        show some (PV.bool (sub==name))=_
        simp [hsn]
       repeat' first|refine Jc (hc _) ?_|refine Ji ?_|refine Jx ?_|refine Jt ?_|refine Jo ?_|fail
       exact DropQ.go [(0,slV b 4 (Za l)),(1,.str name),(4,.ptr 0 4 0 0),(7,.int .i64 ((j:Int)-1))] ⟨rfl,rfl,rfl,rfl,trivial⟩ (by simp [Zl,under]) rfl (by simp [Yw,ZI,under]) (LoopI.go j (by omega) ⟨_,by omega,hgo,rfl,rfl⟩)
   · rw [if_neg (fun h => he h.1)] at hgo
     have b3:ZP E0 .eql 30 (.int .i64 e) (.int .i64 0)=some (.bool false):=by
      show some (PV.bool (e==0))=_
      simp [he]
     repeat' first|refine Jk ?_|refine Jc (hc _) ?_|refine Ji ?_|refine Jx ?_|refine Jt ?_|refine Jo ?_|fail
     exact DropQ.go [(0,slV b 4 (Za l)),(1,.str name),(4,.ptr 0 4 0 0),(7,.int .i64 ((j:Int)-1))] ⟨rfl,rfl,rfl,rfl,trivial⟩ (by simp [Zl,under]) rfl (by simp [Yw,ZI,under]) (LoopI.go j (by omega) ⟨_,by omega,hgo,rfl,rfl⟩)
