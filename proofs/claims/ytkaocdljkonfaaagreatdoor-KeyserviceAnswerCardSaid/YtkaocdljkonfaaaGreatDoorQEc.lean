/-
  Readers of a service: the entry that is looked for, the key that is trusted. Readers of a service: the key that the document's reader trusts. What a r
-/
import Derived.Test.YtkaocdljkonfaaaGreatDoorQGf
set_option maxHeartbeats 64000000
set_option maxRecDepth 100000
namespace Go.Vm.Seat
variable {t:Tm} {name:Bs} {S k:Nat} {l:List Tm}
open Go.Proofs
theorem c39 {u:Tm} (ht:t.Ok) (hu:u.Ok) (h1:t.size≤1000000) (h2:u.size≤1000000):∀ H,CallOk E0 Tryz.prog 39 [.agg t.cells,.agg u.cells] H (.bool (decide (t.cmp u=0))) H:=by
 have hc:=fun H=>Zkq (d77 ht hu (by omega) (by omega) H)
 generalize t.cmp u=c at hc ⊢
 obtain ⟨k,nm,s,b,kids⟩:=t
 obtain ⟨k',nm',s',b',kids'⟩:=u
 simp only [Tm.cells] at hc ⊢
 refine Jw tOk fe39.ok rfl ?_
 repeat' first|refine Jc (hc _) ?_|refine Jt ?_|refine Jb ?_ ?_|refine Jo ?_|intro hb
 all_goals first|rfl|(congr 1;simp_all;done)
theorem YA (name:Bs) (key:Tm) (i t:Int):(ZA name key i t).cells= .str name::(key.cells++ [.bool false,.nils,.nils,.int .i64 i,.int .i64 0,.int .i64 t]):=by
 simp only [ZA,Cred.cells]
 rw [show Y1 []=([]:List (List PV)) from rfl]
 simp only [Zn]
theorem Zj5 (name:Bs) (key:Tm) (i t:Int):XY E0 91 [(0,.str name),(1,.agg key.cells),(4,.int .i64 i),(6,.int .i64 t)]=some (.agg (ZA name key i t).cells):=by
 rw [YA]
 obtain ⟨k,nm,s,b,kids⟩:=key
 rfl
theorem Zbc (m:Nat) (H:Heap) (x:Cred):frz3 m H (.agg x.cells)=some (.agg x.cells):=Zc3 m H x
theorem c58 {key pub:Tm} (hn:name.length≤1000) (hk:key.Ok) (hks:key.size≤20000) (hp:pub.Ok) (hps:pub.size≤20000) (i t:Int):∀ H,CallOk E0 Tryz.prog 58 [.agg key.cells,.str name,.agg pub.cells,.int .i64 i,.int .i64 t] H (.tup [.agg ((ZA name pub i t).issue key).1.cells,.int .i64 ((ZA name pub i t).issue key).2]) H:=by
 have hc:=ZnL (ZA name pub i t) (key:=key) (by simp only [ZA];omega) (by simp [ZA]) (by simp [ZA]) (by simp [ZA]) (by simp [ZA]) hp (by simp only [ZA];omega) hk (by omega)
 have hb:=Zj5 name pub i t
 have hfr:=Yy 0 hNil ((ZA name pub i t).issue key).1 ((ZA name pub i t).issue key).2
 have hft:=fun m H=>Yy m H ((ZA name pub i t).issue key).1 ((ZA name pub i t).issue key).2
 rw [YA] at hc hb
 generalize (ZA name pub i t).issue key=R at hc hfr hft ⊢
 obtain ⟨⟨k,nm,s,b,kids⟩,e⟩:=R
 clear hn hk hks hp hps
 obtain ⟨k1,nm1,s1,b1,kids1⟩:=key
 obtain ⟨k2,nm2,s2,b2,kids2⟩:=pub
 simp only [Tm.cells,List.cons_append,List.nil_append] at hc hb hfr hft ⊢
 refine Jw tOk fe58.ok hfr ?_
 repeat' first|refine Jc (hc _) ?_|(apply qBd;rfl;rfl;rfl;assumption;exact IsV.aggN)|refine Jo ?_|fail
 all_goals exact hft _ _
theorem c68 (name:Bs) (key:Tm) (i t:Int):∀ H,CallOk E0 Tryz.prog 68 [.str name,.agg key.cells,.int .i64 i,.int .i64 t] H (.agg (ZA name key i t).cells) H:=by
 have hb:=Zj5 name key i t
 have hfr:=Zbc 0 hNil (ZA name key i t)
 have hft:=fun m H=>Zbc m H (ZA name key i t)
 rw [YA] at hb hfr hft ⊢
 obtain ⟨k2,nm2,s2,b2,kids2⟩:=key
 simp only [Tm.cells,List.cons_append,List.nil_append] at hb hfr hft ⊢
 refine Jw tOk fe68.ok hfr ?_
 repeat' first|(apply qBd;rfl;rfl;rfl;assumption;exact IsV.aggN)|refine Jo ?_|fail
 all_goals exact hft _ _
theorem Zjq {k:Int} {nm:Bs} {s:Int} {b:Bool} {x:Tm}:(Tm.mk k nm s b [x]).size=x.size+1:=by simp only [Tm.size,Zz];omega
open Go.Proofs
open Go.Proofs
theorem Zdd:Rd.zero.cells= [.int .i64 0,.str [],.int .i64 0,.nils,.int .i64 0,.int .i64 0,.str [],.int .i64 0,.nils,.int .i64 0,.str [],.int .i64 0,.nils]:=by
 simp only [Rd.zero,Rd.cells,Zq]
 rfl
theorem ZkG (m:Nat) (H:Heap) (x:Rd):frz2 m H (.agg x.cells)=some (.agg x.cells):=by
 obtain ⟨⟨k1,nm1,s1,b1,kids1⟩,n,⟨k2,nm2,s2,b2,kids2⟩,k3,nm3,s3,b3,kids3⟩:=x
 have h1:∀ cs,frz3 m H (.agg cs)=frz2 m H (.agg cs):=fun _=>rfl
 rw [← h1,Wf]
 simp only [Rd.cells,Tm.cells,List.cons_append,List.nil_append,Ul,UH]
 rfl
structure AnSm (a:An) (S:Nat):Prop where
 ok:AnOk a
 n:a.name.length≤100
 e:a.entry.size≤S
 h:a.head.size≤S
 s:a.signed.size≤S
 i:∀ t,t∈a.incl→t.size≤S
 x:∀ t,t∈a.ext→t.size≤S
 wi:(Lit.int .i64 a.idx).wf=true
 ws:(Lit.int .i64 a.size).wf=true
theorem Uk (ht:t.Ok) (hs:t.size≤S) (h1:1≤S):(Zj t).1.key.Ok∧(Zj t).1.key.size≤S∧(Zj t).1.sub.length≤1000:=by
 have hz:Tm.zero.size≤S:=by simpa [Tm.zero,Tm.size,Zz] using h1
 rcases ZfI t with e|⟨_,v,w,_⟩
 · rw [e]
   exact ⟨Tm.ok_zero,hz,by simp [Cred.zero]⟩
 · exact ⟨ht.part w,by have:=w.1;omega,(Zf7 (.inr v)).1⟩
open Go.Proofs
theorem ZmS (a b:Bs):ZQ E0 .neq 9 (.str a) (.str b)=some (.bool (decide (a≠b))):=by
 show some (PV.bool (!(a==b)))=_
 by_cases h:a=b<;>simp [h]
open Go.Proofs
theorem Zor (l:List Tm) (k:Nat):(Za l).take k=Za (l.take k):=by
 induction l generalizing k with
 |nil=>simp [Za]
 | cons a r ih =>
   cases k with
   | zero=>simp [Za]
   | succ k=>simp only [Za,List.take_succ_cons,ih]
theorem Zpk (l:List Tm) (k:Nat):(Za l).drop k=Za (l.drop k):=by
 induction l generalizing k with
 |nil=>simp [Za]
 | cons a r ih =>
   cases k with
   | zero=>simp [Za]
   | succ k=>simp only [Za,List.drop_succ_cons,ih]
theorem slT (b:Bool) (h:l≠ []):slV b 4 (Za l)= .sl .none 4 (Za l):=by
 cases l with
 |nil=>exact absurd rfl h
 |cons a r=>simp only [Za,Zw]
theorem Zjt (k:Nat):nat? (.int .i64 (k:Int))=some k:=by
 simp [nat?]
theorem ZkF (b:Bool) (h:l≠ []) (hk:k≤l.length):ZW E0 22 (slV b 4 (Za l)) none (some (.int .i64 (k:Int))) none=some (.sl .none 4 (Za (l.take k))):=by
 have e:E0.T 22=some ⟨.slice 24,1,24,.nils⟩:=by kernel_rfl
 have et:E0.T 24=some ⟨.struct [(0,3),(1,9),(2,3),(3,22)],4,56,.agg [.int .i64 0,.str [],.int .i64 0,.nils]⟩:=by kernel_rfl
 rw [slT b h, ← Zor]
 simp only [ZW,e,et,if_true,UZ,Y3,Zjt]
 rw [if_pos (by simp [Zb];omega)]
 simp [ZbI]
theorem ZlV (b:Bool) (h:l≠ []) (hk:k≤l.length):ZW E0 22 (slV b 4 (Za l)) (some (.int .i64 (k:Int))) none none=some (.sl .none 4 (Za (l.drop k))):=by
 have e:E0.T 22=some ⟨.slice 24,1,24,.nils⟩:=by kernel_rfl
 have et:E0.T 24=some ⟨.struct [(0,3),(1,9),(2,3),(3,22)],4,56,.agg [.int .i64 0,.str [],.int .i64 0,.nils]⟩:=by kernel_rfl
 rw [slT b h, ← Zpk]
 simp only [ZW,e,et,if_true,UZ,Y3,Zjt]
 rw [if_pos (by simp [Zb];omega)]
 simp [ZbI]
def Zj7:List Tm→Int
 | []=>0
 |t::r=>if t.valid≠0 then t.valid else Zj7 r
def ZaA (l:List Tm):Int:=if 32<l.length then 3 else Zj7 l
theorem c98 (hl:∀ t,t∈l→t.Ok∧t.size≤1000000) (b:Bool):∀ H,CallOk E0 Tryz.prog 98 [slV b 4 (Za l)] H (.int .i64 (ZaA l)) H:=by
 have h1:=Zb l
 refine Jw tOk fe98.ok rfl ?_
 by_cases hlen:32<l.length
 · have hg : ZQ E0 .gtr 3 (.int .i64 ((Za l).length : Int)) (.int .i64 32) = some (.bool true) := ZdK (by omega)
   simp only [ZaA,if_pos hlen]
   repeat' first|refine Ji ?_|refine Jl ?_|refine Jo ?_|fail
   all_goals rfl
 have hg:ZQ E0 .gtr 3 (.int .i64 ((Za l).length:Int)) (.int .i64 32)=some (.bool false):=ZbB (by omega)
 simp only [ZaA,if_neg hlen]
 repeat' first|refine Ji ?_|refine Jl ?_|refine Jo ?_|fail
 clear hg
 refine Wp.while (fun k tm H=>∃ (i:Nat) (base:TM),i+k=l.length∧Zj7 l=Zj7 (l.drop i)∧tm=ovr base [(0,slV b 4 (Za l)),(3,.int .i64 (i:Int))]∧H=⟨[],0,[],0⟩)
  (fun k tm H hI=>?_) l.length _ _ ⟨0,_,by omega,by simp,Zh ⟨rfl,rfl,trivial⟩,rfl⟩
 obtain ⟨i,base,hi,hI,rfl,rfl⟩:=hI
 by_cases hlt:i<l.length
 · obtain ⟨t', ht'⟩ : ∃ t', l[i]? = some t' := ⟨l[i], by simp⟩
   have m1:=hl t' (List.mem_of_getElem? ht')
   have hc:=Zkn m1.1 (by omega)
   rw [ZN ht'] at hI
   simp only [Zj7] at hI
   have hlx:ZQ E0 .lss 3 (.int .i64 (i:Int)) (.int .i64 ((Za l).length:Int))=some (.bool true):=Wa (by omega)
   generalize t'.valid=e at hc hI
   have be:=YE e
   obtain ⟨k',nm',s',b',kids'⟩:=t'
   have hj1:=Zl ht'
   simp only [Tm.cells] at hc
   by_cases he:e=0
   · rw [decide_eq_false (not_not_intro he)] at be
     rw [if_neg (not_not_intro he)] at hI
     repeat' first|refine Jc (hc _) ?_|refine Ji ?_|refine Jl ?_|refine Jx ?_|refine Jo ?_|fail
     exact LoopI.go (k-1) (by omega) ⟨i+1,_,by omega,hI,Zh ⟨rfl,Zi (Zf (n:=i+1) (by omega)),trivial⟩,rfl⟩
   · rw [decide_eq_true he] at be
     rw [if_pos he] at hI
     rw [hI]
     repeat' first|refine Jc (hc _) ?_|refine Ji ?_|refine Jl ?_|refine Jx ?_|refine Jo ?_|fail
     all_goals rfl
 · have e : i = l.length := by omega
   subst e
   rw [List.drop_length] at hI
   rw [hI]
   have hlx:ZQ E0 .lss 3 (.int .i64 (l.length:Int)) (.int .i64 ((Za l).length:Int))=some (.bool false):=Xe (by omega)
   repeat' first|refine Ji ?_|refine Jl ?_|refine Jo ?_|fail
   all_goals rfl
def Zb8:Tm:= .mk 3 Wn 0 true [Wv [110,111,110,101]]
def Zr:Nat→List Tm→Tm
 |0,_=> .zero
 | f + 1, l => match l with
   | []=>Zb8
   | [t]=>WE t
   | a::b::r=>Wc (Zr f ((a::b::r).take (Zd (r.length+2)))) (Zr f ((a::b::r).drop (Zd (r.length+2))))
theorem Y0 {S:Nat}:∀ (f:Nat) {l:List Tm},l.length≤f→(∀ t,t∈l→t.Ok∧t.size≤S)→(Zr (f+1) l).Ok∧(Zr (f+1) l).size+8≤(max l.length 1)*(S+11)
 |f,[],_,_=>⟨ok1 (by decide) (Zjl (by decide)),by show 2+8≤_;simp⟩
 | f, [t], _, hl => by
   obtain ⟨h1,h2⟩:=hl t (by simp)
   refine ⟨ZeX h1,?_⟩
   show (WE t).size+8≤_
   rw [ZeW]
   simp
   omega
 |0,a::b::r,hf,_=>by simp at hf
 | f + 1, a :: b :: r, hf, hl => by
   have hp:=Wg (r.length+2)
   have hh:=Vj (n:=r.length+2) (by omega)
   have e1:((a::b::r).take (Zd (r.length+2))).length=Zd (r.length+2):=by simp only [List.length_take,List.length_cons];omega
   have e2:((a::b::r).drop (Zd (r.length+2))).length=r.length+2-Zd (r.length+2):=by simp only [List.length_drop,List.length_cons]
   simp only [List.length_cons] at hf
   obtain ⟨x1,x2⟩:=Y0 (S:=S) f (l:=(a::b::r).take (Zd (r.length+2))) (by omega) fun t ht=>hl t (List.mem_of_mem_take ht)
   obtain ⟨y1,y2⟩:=Y0 (S:=S) f (l:=(a::b::r).drop (Zd (r.length+2))) (by omega) fun t ht=>hl t (List.mem_of_mem_drop ht)
   refine ⟨Zby x1 y1,?_⟩
   show (Wc _ _).size+8≤_
   rw [Zbu]
   rw [e1,Nat.max_eq_left hp] at x2
   rw [e2,Nat.max_eq_left (by omega)] at y2
   have e3:Zd (r.length+2)*(S+11)+(r.length+2-Zd (r.length+2))*(S+11)=(max (a::b::r).length 1)*(S+11):=by
    rw [← Nat.add_mul,Nat.max_eq_left (by simp)]
    congr 1
    simp only [List.length_cons]
    omega
   omega
theorem Zn9 (nm:Bs) (x:Tm):∀ H,CallOk E0 Tryz.prog 34 [.str nm,.sl .full 4 [x.cells]] H (.agg (Tm.mk 3 nm 0 true [x]).cells) H:=Zi8 nm x
theorem c24:∀ (f:Nat) {l:List Tm},l.length≤f→l.length≤32→∀ (b:Bool),∀ H,CallOk E0 Tryz.prog 24 [slV b 4 (Za l)] H (.agg (Zr (f+1) l).cells) H
 | f, [], _, _ => by
   intro b
   have h1:=c62 [110,111,110,101]
   have h2:=Zn9 Wn (Wv [110,111,110,101])
   have e:Zr (f+1) []=Zb8:=rfl
   have e2:Tm.mk 3 Wn 0 true [Wv [110,111,110,101]]=Zb8:=rfl
   have hfr:=ZB 0 hNil Zb8
   rw [e2] at h2
   rw [e]
   generalize Zb8=R at h2 hfr ⊢
   generalize Wv [110,111,110,101]=G at h1 h2
   obtain ⟨k1,nm1,s1,b1,kids1⟩:=R
   obtain ⟨k2,nm2,s2,b2,kids2⟩:=G
   simp only [Tm.cells,Za] at h1 h2 hfr ⊢
   cases b<;>simp only [Zn,Yf]
   all_goals
    refine Jw tOk fe24.ok hfr ?_
    repeat' first|refine Jc (h1 _) ?_|refine Jc (h2 _) ?_|refine Js ?_|refine Jt ?_|refine Jo ?_|fail
   all_goals exact Z3 _ _ _ _ _ _ _
 | f, [t], _, _ => by
   intro b
   have h1:=c63 t
   have e:Zr (f+1) [t]=WE t:=rfl
   have hj:(Za [t])[0]? = some t.cells:=rfl
   have hl:=Zb [t]
   have hfr:=ZB 0 hNil (WE t)
   have b0:ZQ E0 .eql 3 (.int .i64 ((Za [t]).length:Int)) (.int .i64 0)=some (.bool false):=UA (by rw [hl];simp)
   have b1:ZQ E0 .eql 3 (.int .i64 ((Za [t]).length:Int)) (.int .i64 1)=some (.bool true):=Q5 (by rw [hl];simp)
   rw [e]
   generalize Za [t]=L at hj hl b0 b1 ⊢
   generalize WE t=R at h1 hfr ⊢
   obtain ⟨k1,nm1,s1,tb1,kids1⟩:=R
   obtain ⟨k2,nm2,s2,tb2,kids2⟩:=t
   simp only [Tm.cells] at h1 hfr hj ⊢
   refine Jw tOk fe24.ok hfr ?_
   repeat' first|refine Jc (h1 _) ?_|refine Ji ?_|refine Jl ?_|refine Jx ?_|refine Jo ?_|fail
   all_goals exact Z3 _ _ _ _ _ _ _
 |0,a::c::r,hf,_=>by simp at hf
 | f + 1, a :: c :: r, hf, h32 => by
   intro b
   have hne:a::c::r≠ []:=by simp
   have hlen:(a::c::r).length=r.length+2:=rfl
   have hp:=Wg (r.length+2)
   have hh:=Vj (n:=r.length+2) (by omega)
   rw [hlen] at hf h32
   have hs:=c64 h32
   have t1:=ZkF b hne (k:=Zd (r.length+2)) (by rw [hlen];omega)
   have t2:=ZlV b hne (k:=Zd (r.length+2)) (by rw [hlen];omega)
   have x1:=c24 f (l:=(a::c::r).take (Zd (r.length+2))) (by simp only [List.length_take,List.length_cons];omega) (by simp only [List.length_take,List.length_cons];omega) false
   have x2:=c24 f (l:=(a::c::r).drop (Zd (r.length+2))) (by simp only [List.length_drop,List.length_cons];omega) (by simp only [List.length_drop,List.length_cons];omega) false
   rw [ZH] at x1 x2
   have hN:=c65 (Zr (f+1) ((a::c::r).take (Zd (r.length+2)))) (Zr (f+1) ((a::c::r).drop (Zd (r.length+2))))
   have e:Zr (f+1+1) (a::c::r)=Wc (Zr (f+1) ((a::c::r).take (Zd (r.length+2)))) (Zr (f+1) ((a::c::r).drop (Zd (r.length+2)))):=rfl
   rw [e]
   generalize Zr (f+1) ((a::c::r).take (Zd (r.length+2)))=X at x1 hN ⊢
   generalize Zr (f+1) ((a::c::r).drop (Zd (r.length+2)))=Y at x2 hN ⊢
   have hl:=Zb (a::c::r)
   rw [hlen] at hl
   have b0:ZQ E0 .eql 3 (.int .i64 ((Za (a::c::r)).length:Int)) (.int .i64 0)=some (.bool false):=UA (by rw [hl];omega)
   have b1:ZQ E0 .eql 3 (.int .i64 ((Za (a::c::r)).length:Int)) (.int .i64 1)=some (.bool false):=UA (by rw [hl];omega)
   have hs:∀ H,CallOk E0 Tryz.prog 64 [.int .i64 ((Za (a::c::r)).length:Int)] H (.int .i64 (Zd (r.length+2):Int)) H:=by
    rw [hl]
    exact hs
   have hfr:=ZB 0 hNil (Wc X Y)
   generalize Za (a::c::r)=L at t1 t2 hl b0 b1 hs ⊢
   generalize Za ((a::c::r).take (Zd (r.length+2)))=L1 at t1 x1
   generalize Za ((a::c::r).drop (Zd (r.length+2)))=L2 at t2 x2
   generalize Wc X Y=R at hN hfr ⊢
   obtain ⟨k1,nm1,s1,tb1,kids1⟩:=R
   obtain ⟨k2,nm2,s2,tb2,kids2⟩:=X
   obtain ⟨k3,nm3,s3,tb3,kids3⟩:=Y
   simp only [Tm.cells] at x1 x2 hN hfr ⊢
   refine Jw tOk fe24.ok hfr ?_
   repeat' first|refine Jc (hs _) ?_|refine Ji ?_|refine Jl ?_|refine Jo ?_|(apply dCl;rfl;rfl;rfl;rfl;rfl;first|exact x1 _|exact x2 _|exact hN _)|(apply dSl;rfl;rfl;rfl;rfl;rfl;rfl;assumption;exact IsV.any _;rfl)|refine Jh ?_|(apply Wp.drawS tOk follows;kernel_rfl;rfl)|fail
   all_goals exact Z3 _ _ _ _ _ _ _
def Zx (l:List Tm):Tm×Int:=if ZaA l≠0 then (.zero,ZaA l) else if (Zr 33 l).valid≠0 then (.zero,3) else (Zr 33 l,0)
theorem Wl (h:ZaA l=0):l.length≤32:=by
 unfold ZaA at h
 split at h
 · cases h
 · omega
theorem U0 (hl:∀ t,t∈l→t.Ok∧t.size≤S):(Zx l).1.Ok∧(Zx l).1.size≤32*(S+11):=by
 have hz:Tm.zero.Ok∧Tm.zero.size≤32*(S+11):=⟨Tm.ok_zero,by simp [Tm.zero,Tm.size,Zz];omega⟩
 unfold Zx
 split; · exact hz
 split; · exact hz
 rename_i h _
 have h:=Wl (Classical.not_not.1 h)
 obtain ⟨a,b⟩:=Y0 (S:=S) 32 h hl
 refine ⟨a,?_⟩
 have:=Nat.mul_le_mul_right (S+11) (show max l.length 1≤32 by omega)
 have b:(Zr 33 l).size+8≤max l.length 1*(S+11):=b
 show (Zr 33 l).size≤_
 omega
theorem c89 (hl:∀ t,t∈l→t.Ok∧t.size≤2000) (b:Bool):∀ H,CallOk E0 Tryz.prog 89 [slV b 4 (Za l)] H (.tup [.agg (Zx l).1.cells,.int .i64 (Zx l).2]) H:=by
 have c1:=c98 (fun t ht=>⟨(hl t ht).1,by have:=(hl t ht).2;omega⟩) b
 have be:=YE (ZaA l)
 have hfz:=Yy 0 hNil Tm.zero
 unfold Zx
 by_cases he:ZaA l=0
 · rw [he] at c1 be
   rw [if_neg (not_not_intro he)]
   have hlen:=Wl he
   have c2:=c24 32 hlen hlen b
   obtain ⟨h1,h2⟩:=Y0 (S:=2000) 32 hlen hl
   have h3:=Nat.mul_le_mul_right (2000+11) (show max l.length 1≤32 by omega)
   have c3:=c99 h1 (by omega)
   have hft:=fun m H=>Yy m H (Zr 33 l) 0
   have hfr:=Yy 0 hNil (Zr 33 l) 0
   show ∀ H,CallOk E0 Tryz.prog _ _ H (.tup [.agg (if (Zr 33 l).valid≠0 then (Tm.zero,(3:Int)) else (Zr 33 l,0)).1.cells,.int .i64 (if (Zr 33 l).valid≠0 then (Tm.zero,(3:Int)) else (Zr 33 l,0)).2]) H
   clear h1 h2 h3
   generalize Zr 33 l=X at c2 c3 hft hfr ⊢
   generalize X.valid=e at c3 ⊢
   obtain ⟨k2,nm2,s2,tb2,kids2⟩:=X
   simp only [Tm.cells] at c2 c3 hft hfr ⊢
   by_cases hv:e=0
   · rw [if_neg (not_not_intro hv)] at c3 ⊢
     refine Jw tOk fe89.ok hfr ?_
     repeat' first|(apply qCl;rfl;rfl;rfl;rfl;first|exact c1 _|exact c2 _|exact c3 _)|refine Ji ?_|refine Jo ?_|fail
     all_goals exact hft _ _
   · rw [if_pos hv] at c3 ⊢
     refine Jw tOk fe89.ok (hfz _) ?_
     repeat' first|(apply qCl;rfl;rfl;rfl;rfl;first|exact c1 _|exact c2 _|exact c3 _)|refine Ji ?_|refine Jt ?_|refine Jo ?_|fail
     all_goals (rw [Zq];rfl)
 · rw [decide_eq_true he] at be
   rw [if_pos he]
   generalize ZaA l=e at c1 be ⊢
   have hfr:=hfz e
   refine Jw tOk fe89.ok hfr ?_
   repeat' first|refine Jc (c1 _) ?_|refine Ji ?_|refine Jo ?_|fail
   all_goals (rw [Zq];rfl)
open Go.Proofs
open Go.Proofs
def Zs (name:Bs):List Tm→Tm×Nat×Bool
 | []=>(.zero,0,false)
 |t::r=>if (Zj t).2=0∧(Zj t).1.sub=name then ((Zj t).1.key,r.length,decide ((Zj t).1.till≠0)) else Zs name r
theorem Zgy {j:Nat} (h:l[j]? = some t):Zs name (l.take (j+1)).reverse=if (Zj t).2=0∧(Zj t).1.sub=name then ((Zj t).1.key,j,decide ((Zj t).1.till≠0)) else Zs name (l.take j).reverse:=by
 have e:l.take (j+1)=l.take j++ [t]:=by
  rw [List.take_add_one,h]
  rfl
 have hj:j<l.length:=(List.getElem?_eq_some_iff.1 h).1
 rw [e,List.reverse_append,List.reverse_singleton,List.singleton_append]
 simp only [Zs,List.length_reverse,List.length_take]
 rw [Nat.min_eq_left (by omega)]
theorem Zfw (m:Nat) (H:Heap) (t:Tm) (e:Int) (b:Bool):frz3 m H (.tup [.agg t.cells,.int .i64 e,.bool b])=some (.tup [.agg t.cells,.int .i64 e,.bool b]):=by
 have h:frz2 m H (.agg t.cells)=some (.agg t.cells):=ZB m H t
 show (match YL m H [.agg t.cells,.int .i64 e,.bool b] with|some vs'=>some (PV.tup vs')|none=>none)=_
 simp only [YL,h]
 rfl
theorem c53 (hok:∀ t,t∈l→t.Ok) (hs:∀ t,t∈l→t.size≤900) (hll:l.length≤40) (b:Bool):∀ H,CallOk E0 Tryz.prog 53 [slV b 4 (Za l),.str name] H (.tup [.agg (Zs name l.reverse).1.cells,.int .i64 ((Zs name l.reverse).2.1:Int),.bool (Zs name l.reverse).2.2]) H:=by
 have hfr:=Zfw 0 hNil (Zs name l.reverse).1 (Zs name l.reverse).2.1 (Zs name l.reverse).2.2
 refine Zt (own:=(fun d=>[29999,40272,40296].any (Nat.beq d))) tOk fe53.ok (by simp only [ZZ,YU];rfl) hfr ?_
 clear hfr
 refine Wp.seq ?_
 have b1:ZQ E0 .sub 3 (.int .i64 ((Za l).length:Int)) (.int .i64 1)=some (.int .i64 ((l.length:Int)-1)):=by
  show some (PV.int .i64 (IntKind.i64.wrap (((Za l).length:Int)-1)))=_
  rw [Zb,show IntKind.i64.wrap ((l.length:Int)-1)=(l.length:Int)-1 from IntWalk.i64_in _ (by omega)]
 repeat' first|refine Ji ?_|refine Jl ?_|refine Jt ?_|refine Jo ?_|fail
 clear b1
 refine Wp.while (fun m tm H=>∃ base:TM,m≤l.length∧Zs name l.reverse=Zs name (l.take m).reverse∧tm=ovr base [(0,slV b 4 (Za l)),(1,.str name),(4,.ptr 0 4 0 0),(7,.int .i64 ((m:Int)-1))]∧H=⟨[.cells 4 [[.int .i64 0,.str [],.int .i64 0,.nils]]],0,[],0⟩)
  (fun m tm H hI=>Wp.drop ?_) l.length _ _ ⟨_,Nat.le_refl _,by rw [List.take_length],Zh ⟨rfl,rfl,rfl,rfl,trivial⟩,rfl⟩
 obtain ⟨base,hm,hgo,rfl,rfl⟩:=hI
 cases m with
 | zero =>
   have b1:ZQ E0 .geq 3 (.int .i64 (((0:Nat):Int)-1)) (.int .i64 0)=some (.bool false):=rfl
   rw [hgo]
   rw [List.take_zero,List.reverse_nil,Zs]
   simp only [Zq]
   repeat' first|refine Ji ?_|refine Jt ?_|refine Jo ?_|fail
   all_goals rfl
 | succ j =>
   obtain ⟨t,ht⟩:∃ t,l[j]? = some t:=⟨l[j],by simp⟩
   have e1:(((j+1:Nat):Int)-1)=(j:Int):=by omega
   rw [e1]
   have hj:(Za l)[j]? = some t.cells:=by
    obtain ⟨k,nm,s,tb,kids⟩:=t
    exact Zl ht
   have hmem:=List.mem_of_getElem? ht
   have hc:=c87 (hok t hmem) (by have:=hs t hmem;omega)
   have b1:ZQ E0 .geq 3 (.int .i64 (j:Int)) (.int .i64 0)=some (.bool true):=by
    show some (PV.bool (decide ((0:Int)≤(j:Int))))=_
    simp
   have b2:ZQ E0 .sub 3 (.int .i64 (j:Int)) (.int .i64 1)=some (.int .i64 ((j:Int)-1)):=by
    show some (PV.int .i64 (IntKind.i64.wrap ((j:Int)-1)))=_
    rw [show IntKind.i64.wrap ((j:Int)-1)=(j:Int)-1 from IntWalk.i64_in _ (by omega)]
   rw [Zgy ht] at hgo
   generalize (Zj t).2=e at hc hgo
   generalize (Zj t).1=X at hc hgo
   clear hmem ht
   obtain ⟨k,nm,s,tb,kids⟩:=t
   obtain ⟨sub,⟨k4,m4,s4,t4,q4⟩,iss,pn,per,en,exc,ser,fr,till⟩:=X
   simp only [Cred.cells,Tm.cells,List.cons_append,List.nil_append] at hc hj
   have hco:[slV t4 4 (Za q4),slV pn 1 (Y1 per),slV en 1 (Y1 exc)].all Z4=true:=by simp only [List.all_cons,List.all_nil,Ya,Bool.and_self]
   by_cases he:e=0
   · subst he
     have b3:ZQ E0 .eql 32 (.int .i64 0) (.int .i64 0)=some (.bool true):=rfl
     by_cases hsn:sub=name
     · rw [if_pos ⟨rfl, hsn⟩] at hgo
       rw [hgo]
       subst hsn
       have b4:ZQ E0 .eql 9 (.str sub) (.str sub)=some (.bool true):=by
        show some (PV.bool (sub==sub))=_
        simp
       have b5:ZQ E0 .neq 3 (.int .i64 till) (.int .i64 0)=some (.bool (decide (till≠0))):=by
        show some (PV.bool (till != 0))=_
        congr 2
        rw [Bool.eq_iff_iff]
        simp
       simp only [Tm.cells]
       repeat' first|refine Jc (hc _) ?_|refine Ji ?_|refine Jx ?_|refine Jt ?_|refine Jo ?_|refine JD ?_|refine Jh ?_|(apply Wp.drawS tOk follows;kernel_rfl;rfl)|fail
       all_goals exact Zfw _ _ (.mk k4 m4 s4 t4 q4) _ _
     · rw [if_neg (fun h => hsn h.2)] at hgo
       have b4:ZQ E0 .eql 9 (.str sub) (.str name)=some (.bool false):=by
        show some (PV.bool (sub==name))=_
        simp [hsn]
       repeat' first|refine Jc (hc _) ?_|refine Ji ?_|refine Jx ?_|refine Jt ?_|refine Jo ?_|fail
       exact DropQ.go [(0,slV b 4 (Za l)),(1,.str name),(4,.ptr 0 4 0 0),(7,.int .i64 ((j:Int)-1))] ⟨rfl,rfl,rfl,rfl,trivial⟩ (by simp [Zp,under]) rfl (by simp [YF,ZP,under]) (LoopI.go j (by omega) ⟨_,by omega,hgo,rfl,rfl⟩)
   · rw [if_neg (fun h => he h.1)] at hgo
     have b3:ZQ E0 .eql 32 (.int .i64 e) (.int .i64 0)=some (.bool false):=by
      show some (PV.bool (e==0))=_
      simp [he]
     repeat' first|refine Jk ?_|refine Jc (hc _) ?_|refine Ji ?_|refine Jx ?_|refine Jt ?_|refine Jo ?_|fail
     exact DropQ.go [(0,slV b 4 (Za l)),(1,.str name),(4,.ptr 0 4 0 0),(7,.int .i64 ((j:Int)-1))] ⟨rfl,rfl,rfl,rfl,trivial⟩ (by simp [Zp,under]) rfl (by simp [YF,ZP,under]) (LoopI.go j (by omega) ⟨_,by omega,hgo,rfl,rfl⟩)
end Go.Vm.Seat
