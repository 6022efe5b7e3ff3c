/-
  strconv.Itoa at small numbers, and credential.toNumber. Credentials: issued by the program's text.
-/
import Derived.Lib.Hide
import Derived.BigGuard
import Derived.Test.YtkaocdljkonfaaaGreatDoorQCu
set_option maxHeartbeats 64000000
set_option maxRecDepth 100000
namespace Go.Vm.Seat
variable {n:Int}
open Go.Proofs Go.RowKit Go.Sort
def Zlt (w:World):Prop:=∀ j,j<20→w.cell? ⟨1,j,none⟩=some (.int .u64 ((10 ^ j:Nat):Int))
theorem Zrv (u : Nat) (h1 : 1 ≤ u) (h2 : u < 18446744073709551616) (w : World) (htab : Zlt w) :
  Calls Tryz.prog 216 #[.int .u64 u] w fun e w'=>e= .returned (.int .i64 (Lib.nDigits u))∧w'=w:=by
 obtain ⟨hnd,h19⟩:=Lib.numDigits_eq u h1 h2
 have hL:Lib.bitLen u≤64:=Lib.bitLen_le u 64 (Nat.le_refl _) h2
 have hcell:=htab (Lib.l10 (Lib.bitLen u)) (by omega)
 have hto:((u:Int)).toNat=u:=by omega
 generalize hq:Lib.l10 (Lib.bitLen u)=q at hnd h19 hcell
 generalize hT:10 ^ q=T at hnd hcell
 have h20:q<20:=by omega
 have Hnd:=Lib.hid hnd
 clear hnd htab
 have mixed:=follows
 go_enter Tryz.func216,Tryz.ntmps216
 go_wp2_with (first
  | (go_at_call 245;refine (Tryz.bits_Len64 _ _ (by omega) (by omega)).mono ?_;rintro e w' ⟨rfl,rfl⟩)
  | (go_at_call 244;refine (Tryz.internal_strconv_log10Pow2 _ (by first|exact hL|(rw [hto];exact hL)) _).mono ?_;rintro e w' ⟨rfl,rfl⟩)
  | (go_at_call 246;refine (Tryz.internal_strconv_bool2_int _ _).mono ?_;rintro e w' ⟨rfl,rfl⟩))
 all_goals go_ret
 all_goals (
  refine ⟨?_,rfl⟩
  have hnd:=Hnd.out
  congr 2
  split at hnd<;>simp_all<;>omega)
theorem Zrj (u : Nat) (hu1 : 100 ≤ u) (hu2 : u ≤ 9999) (w : World) (htab : Zlt w) :
  Calls Tryz.prog 171 #[.int .i64 u,.int .i64 10] w fun e w'=>e= .returned (.string ⟨(Lib.decDigits u).toArray⟩)∧Below w.heap.size w w':=by
 have hu64:u<18446744073709551616:=by omega
 have hnd20:Lib.nDigits u≤20:=by have:=Lib.numDigits_eq u (by omega) hu64;split at this<;>omega
 have hb3:Lib.nDigits u≤23:=by omega
 have hlt:1<w.heap.size:=Lib.lt_of_cell (htab 0 (by omega))
 have htab2:Zlt (w.alloc (.cells Lib.zeros24 194)):=fun j hj=>by
  rw [← htab j hj]
  exact World.cell?_of_block (w:=w) (Below.heap_alloc w _ _ hlt)
 have hal:Tryz.prog.arrayLen 194=24:=by kernel_rfl
 have hsl1:∀ W,(Instr.sliceAt 194 (.pointer (some ⟨w.heap.size,0,none⟩)) (some (.int .i64 1)) (some (.int .i64 (1+(Lib.nDigits u:Int)))) none).run Tryz.prog W= .ok (.slice (some ⟨w.heap.size,1,none⟩) (Lib.nDigits u) 23) W:=fun W=>by
  rw [run_sliceAt_array_lh W 194 ⟨w.heap.size,0,none⟩ (by kernel_rfl) .i64 .i64 1 (1+(Lib.nDigits u:Int)) (by omega) (by omega) (by rw [hal];omega)]
  go_simp
  omega
 have hH0:=Lib.holds_zero w 194 (Lib.nDigits u) (by omega)
 have hfmt:=Tryz.internal_strconv_formatBase10 w.heap.size 1 23 u (Array.replicate (Lib.nDigits u) 0) (w.alloc (.cells Lib.zeros24 194)) hH0 (by rw [Array.size_replicate];exact Lib.lt_pow_nDigits u) hu64 (by rw [Array.size_replicate];omega)
 rw [Array.size_replicate] at hfmt
 have HH0:=Lib.hid hH0
 clear hH0 hal
 have mixed:=follows
 go_enter Tryz.func171,Tryz.ntmps171
 go_wp2_with (first
  | (go_at_call 216;refine (Zrv u (by omega) hu64 _ htab2).mono ?_;rintro e w' ⟨rfl,rfl⟩))
 go_at_call 217
 refine hfmt.mono ?_
 rintro e w' ⟨rfl,k,v',dk,rfl,hF⟩
 have hcv:(convert 182 9 (.slice (some ⟨w.heap.size,1,none⟩) (Lib.nDigits u) 23)).run Tryz.prog ((putRow (fun (b:UInt8)=>Value.int .u8 (b.toNat:Int)) (w.alloc (.cells Lib.zeros24 194)) w.heap.size 1 dk).drewN k)= .ok (.string ⟨(Lib.decDigits u).toArray⟩) ((putRow (fun (b:UInt8)=>Value.int .u8 (b.toNat:Int)) (w.alloc (.cells Lib.zeros24 194)) w.heap.size 1 dk).drewN k):=by
  have h:=run_convert_bytes_back (P:=Tryz.prog) ((putRow (fun (b:UInt8)=>Value.int .u8 (b.toNat:Int)) (w.alloc (.cells Lib.zeros24 194)) w.heap.size 1 dk).drewN k) 182 9 5 ⟨w.heap.size,1,none⟩ 23 (Lib.decDigits u) Tryz.underlying182 Tryz.underlying5 Tryz.underlying9 (fun j hj=>by
   rw [Lib.row_is_numeral hF j hj,Lib.add_plain,World.cell?_drewN]
   exact cell?_putRow (fun (b:UInt8)=>Value.int .u8 (b.toNat:Int)) _ w.heap.size 1 _ dk HH0.out (by rw [hF.size,Array.size_replicate]) j (by rw [hF.size];rw [Lib.decDigits_length] at hj;exact hj))
  rw [Lib.decDigits_length] at h
  exact h
 go_wp2
 go_ret
 obtain ⟨os,eo⟩:=Lib.fin_pos w (.cells Lib.zeros24 194) dk k
 refine ⟨rfl,?_⟩
 rw [eo]
 exact Zf4 w k os
theorem Zr5 (u : Nat) (hu : u < 100) (w : World) :
  Calls Tryz.prog 171 #[.int .i64 u,.int .i64 10] w fun e w'=>e= .returned (.string ⟨(Lib.decDigits u).toArray⟩)∧Below w.heap.size w w':=by
 have mixed:=follows
 go_enter Tryz.func171,Tryz.ntmps171
 go_wp2_with (go_at_call 215;refine (Tryz.internal_strconv_small u hu _).mono ?_;rintro e w' ⟨rfl,rfl⟩)
 go_ret
 exact ⟨rfl,Below.refl _ _⟩
theorem Zgk:∀ j,j<20→Zc8[j]? = some (.int .u64 ((10 ^ j:Nat):Int)):=by
 intro j hj
 rcases (show j=0∨j=1∨j=2∨j=3∨j=4∨j=5∨j=6∨j=7∨j=8∨j=9∨j=10∨j=11∨j=12∨j=13∨j=14∨j=15∨j=16∨j=17∨j=18∨j=19 by omega) with
  rfl|rfl|rfl|rfl|rfl|rfl|rfl|rfl|rfl|rfl|rfl|rfl|rfl|rfl|rfl|rfl|rfl|rfl|rfl|rfl<;>rfl
theorem c171 (h0:0≤n) (h1:n≤9999):∀ H,CallOk E0 Tryz.prog 171 [.int .i64 n,.int .i64 10] H (.str (Lib.itoa n)) H:=by
 obtain ⟨u,rfl⟩:∃ u:Nat,n=(u:Int):=⟨n.toNat,by omega⟩
 refine Qk fe171.ok rfl fun g w vals hst hg hv=>?_
 obtain ⟨v0,v1,rfl,e0,e1⟩:=VF hv
 obtain rfl:=e0.int_inv
 obtain rfl:=e1.int_inv
 refine ⟨.string ⟨(Lib.decDigits u).toArray⟩,.str _ _ (by rw [Lib.itoa_nonneg]),?_⟩
 by_cases hs:u<100
 · exact Zr5 u hs w
 · exact Zrj u (by omega) (by omega) w fun j hj=>Znf hg (k:=1) rfl hst (Zgk j hj)
theorem ZhE (s:Bs):Lib.trimPrefix s [110]=U7 s:=by
 cases s with
 |nil=>rfl
 | cons c r =>
   by_cases h:c=110
   · subst h;simp [Lib.trimPrefix,Lib.hasPrefix,U7]
   · simp [Lib.trimPrefix, Lib.hasPrefix, U7, h]
     exact fun e=>h e.symm
theorem ZoP (k s : Int) (nm : ByteArray) (kv : Value) (w : World) (hl : nm.size ≤ 1000000) (x1 : ∃ t p, w.cell? ⟨2, 0, none⟩ = some (.iface t p)) (x2 : ∃ t p, w.cell? ⟨3, 0, none⟩ = some (.iface t p)) :
  Calls Tryz.prog 108 #[.agg #[.int .i64 k,.string nm,.int .i64 s,kv]] w fun e w'=>e= .returned (.int .i64 (Vh nm.data.toList))∧Below w.heap.size w w':=by
 obtain ⟨t1,p1,x1⟩:=x1
 obtain ⟨t2,p2,x2⟩:=x2
 have l1:=Lib.lt_of_cell x1
 have l2:=Lib.lt_of_cell x2
 have hb0:Below w.heap.size w (w.alloc (.cells #[.int .i64 k,.string nm,.int .i64 s,kv] 24)):=(Below.refl _ _).alloc (Nat.le_refl _) _
 have y1:(w.alloc (.cells #[.int .i64 k,.string nm,.int .i64 s,kv] 24)).cell? ⟨2,0,none⟩=some (.iface t1 p1):=(hb0.cell l1).trans x1
 have y2:(w.alloc (.cells #[.int .i64 k,.string nm,.int .i64 s,kv] 24)).cell? ⟨3,0,none⟩=some (.iface t2 p2):=(hb0.cell l2).trans x2
 have hlen:(⟨(Lib.trimPrefix nm.data.toList [110]).toArray⟩:ByteArray).size≤1000000:=by
  rw [ZhE]
  have h1:nm.data.toList.length=nm.size:=by simp
  have h2:(U7 nm.data.toList).length≤nm.data.toList.length:=by
   generalize nm.data.toList=z
   cases z with
   | nil=>simp [U7]
   | cons c r=>simp only [U7];split<;>simp
  have h3:(⟨(U7 nm.data.toList).toArray⟩:ByteArray).size=(U7 nm.data.toList).length:=by
   show (U7 nm.data.toList).toArray.size=_
   simp
  omega
 have hn:Vh nm.data.toList=match Lib.atoiAll (⟨(Lib.trimPrefix nm.data.toList [110]).toArray⟩:ByteArray).data.toList with| .ok v=>v|_=> -1:=by
  show (match Lib.atoiAll (U7 nm.data.toList) with| .ok v=>v|_=> -1)=_
  rw [ZhE]
 rw [hn]
 clear hn
 have mixed:=follows
 cases h:Lib.atoiAll (⟨(Lib.trimPrefix nm.data.toList [110]).toArray⟩:ByteArray).data.toList
 · rename_i v
   have hA:=Tryz.strconv_Atoi_ok _ (by omega) v h
   go_enter Tryz.func108,Tryz.ntmps108
   go_wp2_with (first
    | (go_at_call 156;refine (Tryz.strings_TrimPrefix _ _ _).mono ?_;rintro e w' ⟨rfl,rfl⟩)
    | (go_at_call 155;refine (hA _).mono ?_;rintro e w' ⟨rfl,hW⟩))
   go_ret
   refine ⟨rfl,?_⟩
   rcases hW with rfl|⟨t,rfl⟩
   · exact hb0
   · exact hb0.trans ((Lib.bytesWorld_below _ _ _).mono hb0.size)
 · have hA := Tryz.strconv_Atoi_syntax (⟨(Lib.trimPrefix nm.data.toList [110]).toArray⟩ : ByteArray) (by omega) (fun v e => by rw [h] at e; cases e) (fun e => by rw [h] at e; cases e) _ _ y1 (.inr ⟨_, _, rfl⟩)
   go_enter Tryz.func108,Tryz.ntmps108
   go_wp2_with (first
    | (go_at_call 156;refine (Tryz.strings_TrimPrefix _ _ _).mono ?_;rintro e w' ⟨rfl,rfl⟩)
    | (go_at_call 155;refine hA.mono ?_;rintro e w' ⟨N,rfl, -, -,hb⟩))
   go_ret
   exact ⟨rfl,hb0.trans (hb.mono hb0.size)⟩
 · have hA := Tryz.strconv_Atoi_range _ (by omega) h _ _ y2 (.inr ⟨_, _, rfl⟩)
   go_enter Tryz.func108,Tryz.ntmps108
   go_wp2_with (first
    | (go_at_call 156;refine (Tryz.strings_TrimPrefix _ _ _).mono ?_;rintro e w' ⟨rfl,rfl⟩)
    | (go_at_call 155;refine hA.mono ?_;rintro e w' ⟨N,rfl, -, -,hb⟩))
   go_ret
   exact ⟨rfl,hb0.trans (hb.mono hb0.size)⟩
theorem Zo6 {t:Tm} (hl:t.nm.length≤1000000):∀ H,CallOk E0 Tryz.prog 108 [.agg t.cells] H (.int .i64 (Vh t.nm)) H:=by
 obtain ⟨k,nm,s,b,kids⟩:=t
 refine Qk fe108.ok rfl fun g w vals hst hg hv=>?_
 obtain ⟨v0,rfl,e0⟩:=ZdO hv
 obtain ⟨vs,hvl,rfl,hvs⟩:=e0.agg_inv
 have hvl:vs.size=4:=by simpa [Tm.cells] using hvl
 obtain ⟨a0,a1,a2,a3,rfl⟩:∃ a0 a1 a2 a3,vs= #[a0,a1,a2,a3]:=by
  obtain ⟨l⟩:=vs
  match l,hvl with
  | [a,b,c,d],_=>exact ⟨a,b,c,d,rfl⟩
 have z0:=hvs 0 (by simp [Tm.cells])
 have z1:=hvs 1 (by simp [Tm.cells])
 have z2:=hvs 2 (by simp [Tm.cells])
 simp only [Tm.cells,List.getElem_cons_zero,List.getElem_cons_succ,List.getElem_toArray] at z0 z1 z2
 obtain rfl:=z0.int_inv
 obtain ⟨sb,rfl,hsb⟩:=z1.str_inv
 obtain rfl:=z2.int_inv
 simp only [Tm.nm] at hl ⊢
 subst hsb
 refine ⟨_,.int _ _,ZoP k s sb a3 w (by simpa using hl) ?_ ?_⟩
 · obtain ⟨t, p, e⟩ := hg.2.2 2 rfl
   exact ⟨t,p,hst _ _ _ e⟩
 · obtain ⟨t, p, e⟩ := hg.2.2 3 rfl
   exact ⟨t,p,hst _ _ _ e⟩
open Go.Proofs
theorem ZtK (h0:0≤n) (h1:n≤9999):∀ H,CallOk E0 Tryz.prog 133 [.int .i64 n] H (.str (Lib.itoa n)) H:=by
 have hc:=c171 h0 h1
 refine Jw tOk fe133.ok rfl ?_
 repeat' first|refine Jc (hc _) ?_|refine Jo ?_|fail
 all_goals rfl
theorem c82 (h0:0≤n) (h1:n≤9999):∀ H,CallOk E0 Tryz.prog 82 [.int .i64 n] H (.str (Lib.itoa n)) H:=by
 have hc:=ZtK h0 h1
 refine Jw tOk fe82.ok rfl ?_
 repeat' first|refine Jc (hc _) ?_|refine Jo ?_|fail
 all_goals rfl
theorem ZoW (h0:0≤n) (h1:n≤9999):∀ H,CallOk E0 Tryz.prog 198 [.int .i64 n] H (.agg (Qn n).cells) H:=by
 have hc:=c82 h0 h1
 have hl:=Us h0 h1
 have hat:=ZlT (110::Lib.itoa n) 4
 unfold Qn
 generalize Lib.itoa n=s at hc hat hl ⊢
 have had:ZQ E0 .add 9 (.str [110]) (.str s)=some (.str (110::s)):=by
  show Zfj .add [110] s=_
  simp only [Zfj]
  rw [if_pos (by simp;omega)]
  rfl
 rw [ZD] at hat ⊢
 refine Jw tOk fe198.ok rfl ?_
 repeat' first|refine Jc (hc _) ?_|refine Jc (hat _) ?_|refine Ji ?_|refine Jo ?_|fail
 all_goals rfl
theorem Zs1 {x:Cred} (h:CredOk x) (h1:x.sub.length≤100000) (hp:∀ s,s∈x.per→s.length≤100000) (he:∀ s,s∈x.exc→s.length≤100000):∀ H,CallOk E0 Tryz.prog 158 [.agg x.cells] H (.agg x.body.cells) H:=by
 have ct:∀ H,CallOk E0 Tryz.prog 195 [.sl .full 4 (Za x.bodyL)] H (.agg x.body.cells) H:=fun H=>Z8 (Zqz (l:=x.bodyL) (by simp [Cred.bodyL]) (by simp [Cred.bodyL]) true hNil) (by
  simp only [Cred.bodyL,Za]
  rw [Zw]
  rfl) (ZB _ _ _) H
 obtain ⟨sub,key,iss,pn,per,en,exc,ser,fr,till⟩:=x
 obtain ⟨d1,d2,d3,l1,l2,⟨n1,n2⟩,⟨n3,n4⟩,n5,n6⟩:=h
 simp only at h1 hp he d1 d2 d3 l1 l2 n1 n2 n3 n4 n5 n6
 have c1:=Zqq h1 d1
 have c2:=Zqu hp d2 (by omega) pn
 have c3:=Zqu he d3 (by omega) en
 have c4:=ZoW n1 n2
 have c5:=ZoW n3 n4
 have c6:=ZoW n5 n6
 have ca:=ZlT [99,101,114,116] 5
 have cf:=ZlT (ZcW iss) 4
 generalize hB:Cred.body ⟨sub,key,iss,pn,per,en,exc,ser,fr,till⟩=B at ct ⊢
 clear hB
 simp only [Cred.bodyL,Za,Qn] at ct
 simp only [Qn] at c4 c5 c6
 simp only [ZD] at ct c4 c5 c6 ca cf
 generalize YK sub=t1 at ct c1
 generalize XG per=t2 at ct c2
 generalize XG exc=t3 at ct c3
 generalize Lib.itoa ser=s1 at ct c4
 generalize Lib.itoa fr=s2 at ct c5
 generalize Lib.itoa till=s3 at ct c6
 obtain ⟨k1,m1,s1',b1,q1⟩:=t1
 obtain ⟨k2,m2,s2',b2,q2⟩:=t2
 obtain ⟨k3,m3,s3',b3,q3⟩:=t3
 obtain ⟨k4,m4,s4',b4,q4⟩:=key
 obtain ⟨k5,m5,s5',b5,q5⟩:=B
 simp only [Tm.cells] at ct c1 c2 c3
 simp only [Cred.cells,Tm.cells,List.cons_append,List.nil_append]
 have hco:[slV pn 1 (Y1 per),slV en 1 (Y1 exc)].all Z4=true:=by simp only [List.all_cons,List.all_nil,Ya,Bool.and_self]
 cases iss
 all_goals
  simp only [ZcW,Bool.false_eq_true,if_false,if_true] at ct cf
  refine Jw tOk fe158.ok (Z3 _ _ _ _ _ _ _) ?_
  repeat' first|refine Jt ?_|refine Jo ?_|(apply dCl;rfl;rfl;rfl;rfl;rfl;first|exact ca _|exact c1 _|exact cf _|exact c2 _|exact c3 _|exact c4 _|exact c5 _|exact c6 _|exact ct _)|refine JB ?_|refine Jh ?_|(apply Wp.drawS tOk follows;kernel_rfl;rfl)|fail
  all_goals exact Z3 _ _ _ _ _ _ _
theorem Zq:Tm.zero.cells= [.int .i64 0,.str [],.int .i64 0,.nils]:=by
 show [PV.int .i64 0,.str [],.int .i64 0,slV true 4 (Za [])]=_
 rw [show slV true 4 (Za [])= .nils from Zn 4]
theorem Yy (m:Nat) (H:Heap) (t:Tm) (e:Int):frz3 m H (.tup [.agg t.cells,.int .i64 e])=some (.tup [.agg t.cells,.int .i64 e]):=by
 have h:frz2 m H (.agg t.cells)=some (.agg t.cells):=ZB m H t
 show (match YL m H [.agg t.cells,.int .i64 e] with|some vs'=>some (PV.tup vs')|none=>none)=_
 simp only [YL,h]
 rfl
theorem Zjw (m:Nat) (H:Heap) (k:Int) (nm:Bs) (s:Int) (a b:Tm) (e:Int):frz3 m H (.tup [.agg [.int .i64 k,.str nm,.int .i64 s,.sl .full 4 [a.cells,b.cells]],.int .i64 e])=some (.tup [.agg (Tm.mk k nm s true [a,b]).cells,.int .i64 e]):=by
 have h:frz2 m H (.agg [.int .i64 k,.str nm,.int .i64 s,.sl .full 4 [a.cells,b.cells]])=some (.agg (Tm.mk k nm s true [a,b]).cells):=by
  have h0:=Wf m H [.int .i64 k,.str nm,.int .i64 s,.sl .full 4 [a.cells,b.cells]]
  have h1:frz3 m H (.agg [.int .i64 k,.str nm,.int .i64 s,.sl .full 4 [a.cells,b.cells]])=frz2 m H (.agg [.int .i64 k,.str nm,.int .i64 s,.sl .full 4 [a.cells,b.cells]]):=rfl
  rw [← h1,h0]
  simp only [Tm.cells,Za]
  rw [Zw]
  rfl
 show (match YL m H [.agg [.int .i64 k,.str nm,.int .i64 s,.sl .full 4 [a.cells,b.cells]],.int .i64 e] with|some vs'=>some (PV.tup vs')|none=>none)=_
 simp only [YL,h]
 rfl
theorem ZnL (x : Cred) {key : Tm} (h1 : x.sub.length ≤ 100000) (hp : ∀ s, s ∈ x.per → s.length ≤ 100000) (he : ∀ s, s ∈ x.exc → s.length ≤ 100000) (hpl : x.per.length ≤ 100000) (hel : x.exc.length ≤ 100000)
  (hk:x.key.Ok) (hks:x.key.size≤40000) (hk2:key.Ok) (hks2:key.size≤40000):∀ H,CallOk E0 Tryz.prog 109 [.agg x.cells,.agg key.cells] H (.tup [.agg (x.issue key).1.cells,.int .i64 (x.issue key).2]) H:=by
 have c1:=ZqZ x h1 hk (by omega) hp he hpl hel
 have c2:=Zqr hk2 (by omega)
 have hz:=Zq
 have hfz:=Yy 0 hNil Tm.zero
 unfold Cred.issue
 by_cases v1:x.valid=0
 · rw [if_neg (not_not_intro v1)]
   rw [v1] at c1
   by_cases v2:key.key=0
   · rw [if_neg (not_not_intro v2)]
     rw [v2] at c2
     have hok:=ZbT v1
     have c3:=Zs1 hok h1 hp he
     have c4:∀ H,CallOk E0 Tryz.prog 74 [.agg [.int .i64 3,.str [115,105,103,110],.int .i64 0,.sl .full 4 [x.body.cells,key.cells]]] H (.int .i64 (x.term key).valid) H:=fun H=>
      Z8 (c74 (ZdE hok hk hk2) (by have:=Zac (key:=key) hok;omega) hNil) (by
       simp only [Cred.term,Tm.cells,Za]
       rw [Zw]
       obtain ⟨k5,m5,s5,b5,q5⟩:=x.body
       obtain ⟨k6,m6,s6,b6,q6⟩:=key
       rfl) rfl H
     have hfn:=fun m H=>Zjw m H 3 [115,105,103,110] 0 x.body key 0
     have hfr:frz3 0 hNil (.tup [.agg (if (x.term key).valid≠0 then (Tm.zero,(x.term key).valid) else (x.term key,0)).1.cells,.int .i64 (if (x.term key).valid≠0 then (Tm.zero,(x.term key).valid) else (x.term key,0)).2])=some (.tup [.agg (if (x.term key).valid≠0 then (Tm.zero,(x.term key).valid) else (x.term key,0)).1.cells,.int .i64 (if (x.term key).valid≠0 then (Tm.zero,(x.term key).valid) else (x.term key,0)).2]):=Yy _ _ _ _
     have hT:(Tm.mk 3 [115,105,103,110] 0 true [x.body,key])=x.term key:=rfl
     rw [hT] at hfn
     clear hT
     generalize x.term key=T at c4 hfn hfr ⊢
     generalize T.valid=e at c4 hfr ⊢
     generalize x.body=B at c3 c4 hfn
     clear hp he hpl hel hks hks2 hk hk2 h1 v1 v2 hok hz
     obtain ⟨k5,m5,s5,b5,q5⟩:=B
     obtain ⟨k6,m6,s6,b6,q6⟩:=key
     obtain ⟨sub,⟨k4,m4,s4,b4,q4⟩,iss,pn,per,en,exc,ser,fr,till⟩:=x
     simp only [Tm.cells] at c2 c3 c4 hfn
     simp only [Cred.cells,Tm.cells,List.cons_append,List.nil_append] at c1 c3 ⊢
     have hco:[slV b4 4 (Za q4),slV pn 1 (Y1 per),slV en 1 (Y1 exc)].all Z4=true:=by simp only [List.all_cons,List.all_nil,Ya,Bool.and_self]
     refine Zt (own:=fun d=>Nat.beq d 30006) tOk fe109.ok (by simp only [ZZ,frzG,Vc,Z5];rfl) hfr ?_
     refine Wp.seq ?_
     repeat' first|(apply qCl;rfl;rfl;rfl;rfl;first|exact c1 _|exact c2 _|exact c4 _)|refine Jt ?_|refine Jb ?_ ?_|refine Jo ?_|refine Jd (c3 _) ?_|(apply dAl;rfl;rfl;rfl;rfl;exact IsV.ptrM;exact IsH.mkN)|refine JB ?_|refine Jh ?_|(apply dWB tOk follows;rfl;kernel_rfl;rfl;exact IsH.mkN)|intro hb
     · rw [if_pos (by simpa using hb), Zq]
       rfl
     · rw [if_neg (by simpa using hb)]
       exact hfn _ _
   · rw [if_pos v2]
     generalize key.key=e at c2 v2 ⊢
     clear hp he hpl hel hks hks2 hk hk2 h1 v1 hz
     have hfr:=hfz e
     obtain ⟨k6,m6,s6,b6,q6⟩:=key
     obtain ⟨sub,⟨k4,m4,s4,b4,q4⟩,iss,pn,per,en,exc,ser,fr,till⟩:=x
     simp only [Tm.cells] at c2
     simp only [Cred.cells,Tm.cells,List.cons_append,List.nil_append] at c1 ⊢
     refine Jw tOk fe109.ok hfr ?_
     repeat' first|refine Jc (c1 _) ?_|refine Jc (c2 _) ?_|refine Jt ?_|refine Jb ?_ ?_|refine Jo ?_|refine Jh ?_|(apply dWB tOk follows;rfl;kernel_rfl;rfl;exact IsH.mkN)|intro hb
     all_goals first
      | (exfalso;simp at hb;exact v2 hb)
      | (rw [Zq];rfl)
 · rw [if_pos v1]
   generalize x.valid=e at c1 v1 ⊢
   clear hp he hpl hel hks hks2 hk hk2 h1 c2 hz
   have hfr:=hfz e
   obtain ⟨k6,m6,s6,b6,q6⟩:=key
   obtain ⟨sub,⟨k4,m4,s4,b4,q4⟩,iss,pn,per,en,exc,ser,fr,till⟩:=x
   simp only [Cred.cells,Tm.cells,List.cons_append,List.nil_append] at c1 ⊢
   refine Jw tOk fe109.ok hfr ?_
   repeat' first|refine Jc (c1 _) ?_|refine Jb ?_ ?_|refine Jo ?_|intro hb
   all_goals first
    | (exfalso;simp at hb;exact v1 hb)
    | (rw [Zq];rfl)
end Go.Vm.Seat
