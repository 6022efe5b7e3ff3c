/-
  Credentials: names, and what a credential must be, in the reference's text. Credentials: their terms. Credentials: tuples. Credentials: names and list
-/
import Derived.Test.YtkaocdljkonfaaaGreatDoorQCv
set_option maxHeartbeats 64000000
set_option maxRecDepth 100000
namespace Go.Vm.Seat
variable {s:Bs} {l:List Bs}
open Go.Proofs
theorem Zqg (hs:s.length≤100000):∀ H,CallOk E0 Tryz.prog 118 [.str s] H (.bool (ZK s)) H:=by
 have hc:=ZqD hs
 unfold XE at hc
 unfold ZK
 cases h:(ZE s).all Yr with
 | false =>
   rw [h] at hc
   rw [Bool.and_false]
   have hc:∀ H,CallOk E0 Tryz.prog 164 [.str s] H (.tup [.nils,.bool false]) H:=hc
   refine Jw tOk fe118.ok rfl ?_
   repeat' first|refine Jc (hc _) ?_|refine Jt ?_|refine Jo ?_|fail
   all_goals rfl
 | true =>
   rw [h] at hc
   rw [Bool.and_true]
   generalize decide ((ZE s).length≤4)=B at hc
   have hc:∀ H,CallOk E0 Tryz.prog 164 [.str s] H (.tup [.sl .none 1 (ZI (ZE s)),.bool B]) H:=hc
   refine Jw tOk fe118.ok rfl ?_
   repeat' first|refine Jc (hc _) ?_|refine Jt ?_|refine Jb ?_ ?_|refine Jo ?_|intro hb
   all_goals first|rfl|(rw [hb];rfl)|(cases B<;>first|rfl|cases hb)
theorem ZiD {i:Nat} {a:Bs} (h:l[i]? = some a):Xd (l.drop i)=(!ZK a||Xd (l.drop (i+1))):=by
 rw [ZN h];rfl
theorem ZqY (hl:∀ s,s∈l→s.length≤100000) (hlen:l.length≤100000) (b:Bool):∀ H,CallOk E0 Tryz.prog 121 [slV b 1 (Y1 l)] H (.bool (!Xd l)) H:=by
 refine Jw tOk fe121.ok rfl ?_
 repeat' first|refine Jt ?_|refine Jo ?_|fail
 refine Wp.while (fun m tm H=>∃ (i:Nat) (base:TM),i+m=l.length∧Xd l=Xd (l.drop i)∧tm=ovr base [(0,slV b 1 (Y1 l)),(3,.int .i64 (i:Int))]∧H=⟨[],0,[],0⟩)
  (fun m tm H hI=>?_) l.length _ _ ⟨0,_,by omega,by simp,Zh ⟨rfl,rfl,trivial⟩,rfl⟩
 obtain ⟨i,base,hi,hgo,rfl,rfl⟩:=hI
 rw [hgo]
 by_cases hlt:i<l.length
 · obtain ⟨a, ha⟩ : ∃ a, l[i]? = some a := ⟨l[i], by simp⟩
   have hj:=Qw ha
   have hc:=Zqg (hl a (List.mem_of_getElem? ha))
   rw [ZiD ha]
   generalize ZK a=d at hc
   repeat' first|refine Jc (hc _) ?_|refine Jl ?_|refine Jx ?_|refine Jt ?_|refine Jb ?_ ?_|refine Jo ?_|intro hb
   · have h1 : d = false := by simpa using hb
     rw [h1]
     rfl
   · have h1 : d = true := by simpa using hb
     rw [h1]
     exact LoopI.go (m-1) (by omega) ⟨i+1,_,by omega,rfl,Zh ⟨rfl,Zi (Zf (n:=i+1) (by omega)),trivial⟩,rfl⟩
   · exfalso;rw [XD] at hb;simp at hb;omega
 · have e : i = l.length := by omega
   subst e
   repeat' first|refine Jl ?_|refine Jt ?_|refine Jb ?_ ?_|refine Jo ?_|intro hb
   · exfalso;rw [XD] at hb;simp at hb
   · rw [List.drop_length];rfl
theorem Zml {k:Int} {nm:List UInt8} {s:Int} {b:Bool} {kids:List Tm} (h:(Tm.mk k nm s b kids).key=0):isF k nm [112,107]=(Tm.mk k nm s b kids).isB [112,107] 1:=by
 show isF k nm [112,107]=(decide (k=3)&&((nm== [112,107])&&decide (kids.length=1)))
 by_cases c1:k=3
 · by_cases c2 : nm = [112, 107]
   · subst c1 c2
     have hth:(Tm.mk 3 [112,107] s b kids).th=0:=by
      unfold Tm.key at h
      by_cases d1:(Tm.mk 3 [112,107] s b kids).valid≠0
      · rw [if_pos d1] at h;exact absurd h d1
      · rw [if_neg d1] at h
        by_cases d2:(Tm.mk 3 [112,107] s b kids).th≠0
        · rw [if_pos d2] at h;exact absurd h d2
        · simpa using d2
     simp only [Tm.th] at hth
     have hsy:Qt [112,107]=⟨[112,107],1,1,1⟩:=rfl
     rw [hsy] at hth
     simp only [ne_eq,not_true_eq_false,if_false,show ¬ ((1:Int)=0) by omega] at hth
     have hl:kids.length=1:=by
      by_cases d3:(kids.length:Int)<1∨1<(kids.length:Int)
      · rw [if_pos d3] at hth;exact absurd hth (by omega)
      · omega
     rw [hl]
     rfl
   · have c3 : (nm == [112, 107]) = false := by simpa using c2
     simp only [isF,c3,Bool.false_and,Bool.and_false]
 · simp [isF,c1]
theorem c69 (x : Cred) (h1 : x.sub.length ≤ 100000) (hk : x.key.Ok) (hks : x.key.size ≤ 90000) (hp : ∀ s, s ∈ x.per → s.length ≤ 100000) (he : ∀ s, s ∈ x.exc → s.length ≤ 100000) (hpl : x.per.length ≤ 100000) (hel : x.exc.length ≤ 100000) :
  ∀ H,CallOk E0 Tryz.prog 69 [.agg x.cells] H (.int .i64 x.valid) H:=by
 obtain ⟨sub,key,iss,pn,per,en,exc,ser,fr,till⟩:=x
 simp only [] at h1 hk hks hp he hpl hel
 have c1:=Zqg h1
 have c2:=Zqj hk (by omega)
 have c4:=ZqY hp hpl pn
 have c5:=ZqY he hel en
 obtain ⟨V,hV⟩:∃ V,V=(Cred.mk sub key iss pn per en exc ser fr till).valid:=⟨_,rfl⟩
 rw [← hV]
 simp only [Cred.valid] at hV
 generalize ZK sub=d at c1 hV
 generalize Xd per=w1 at c4 hV
 generalize Xd exc=w2 at c5 hV
 obtain ⟨l,hl⟩:∃ l,l= [ser,fr,till]:=⟨_,rfl⟩
 rw [← hl] at hV
 obtain ⟨k,nm,s,b,kids⟩:=key
 have hkey:=Zml (k:=k) (nm:=nm) (s:=s) (b:=b) (kids:=kids)
 have c3:=Znp k nm s b kids [112,107]
 generalize (Tm.mk k nm s b kids).key=e at c2 hV hkey
 generalize (Tm.mk k nm s b kids).isB [112,107] 1=i3 at hV hkey
 generalize isF k nm [112,107]=i4 at c3 hkey
 simp only [Tm.cells] at c2 c3
 simp only [Cred.cells,Tm.cells,List.cons_append,List.nil_append]
 refine Jw tOk fe69.ok rfl ?_
 repeat' first|refine Jk ?_|(apply qCl;rfl;rfl;rfl;rfl;first|exact c1 _|exact c2 _|exact c3 _|exact c4 _|exact c5 _)|refine Js ?_|refine Jl ?_|refine Jt ?_|refine Jb ?_ ?_|refine Jo ?_|refine Jh ?_|(apply Wp.draw tOk follows;kernel_rfl)|intro hb
 all_goals
  have hwr:IntKind.i64.wrap ((per.length:Int)+(exc.length:Int))=(per.length:Int)+(exc.length:Int):=IntWalk.i64_in _ (by omega)
  clear c1 c2 c3 c4 c5 h1 hp he hk hks
 all_goals first
  | (refine Zi ?_
     simp only [XD,hwr,Bool.not_eq_true',Bool.not_eq_false',Bool.not_not,bne_iff_ne,bne_eq_false_iff_eq,decide_eq_true_eq,decide_eq_false_iff_not,ne_eq] at *
     subst hV
     (repeat' split)<;>first|rfl|omega|(exfalso;simp_all;done)|(simp_all;done)|(exfalso;simp_all;omega))
  | skip
 all_goals
  have hV:V=if l.any Wu=true∨till<fr then 7 else 0:=by
   simp only [XD,hwr,Bool.not_eq_false',Bool.not_not,bne_eq_false_iff_eq,decide_eq_false_iff_not,ne_eq] at *
   rw [hV]
   (repeat' split)<;>first|rfl|omega|(exfalso;simp_all;done)|(simp_all;done)|(exfalso;simp_all;omega)
  subst hl
  clear hkey hwr
  rename_i hV0 _ _
  refine Wp.while (fun m tm H => ∃ (i : Nat) (base : TM), i + m = 3 ∧ [ser, fr, till].any Wu = ([ser, fr, till].drop i).any Wu ∧ tm = ovr base [(1, .ptr 0 11 0 0), (6, .sl .full 1 [[.int .i64 ser], [.int .i64 fr], [.int .i64 till]]), (7, .int .i64 (i : Int))] ∧
    H=⟨[.cells 11 [[.str sub,.int .i64 k,.str nm,.int .i64 s,slV b 4 (Za kids),.bool iss,slV pn 1 (Y1 per),slV en 1 (Y1 exc),.int .i64 ser,.int .i64 fr,.int .i64 till]]],0,[],0⟩)
   (fun m tm H hI=>?_) 3 _ _ ⟨0,_,by omega,rfl,Zh ⟨rfl,rfl,rfl,trivial⟩,rfl⟩
  obtain ⟨i,base,hi,hgo,rfl,rfl⟩:=hI
  rw [hgo] at hV
  clear hV0
  rcases (show i=0∨i=1∨i=2∨i=3 by omega) with rfl|rfl|rfl|rfl
  all_goals
   repeat' first|refine Jk ?_|refine Jt ?_|refine Jb ?_ ?_|refine Jo ?_|intro hb
  all_goals first
   | (exfalso;simp at hb;done)
   | (refine Zi ?_
      rw [hV,if_pos]
      clear hV hgo
      simp [Wu] at hb ⊢
      omega)
   | (refine Zi ?_
      rw [hV,if_neg]
      clear hV hgo
      simp at hb ⊢
      omega)
   | (refine LoopI.go (m - 1) (by omega) ⟨1, _, by omega, ?_, Zh ⟨rfl, rfl, rfl, trivial⟩, rfl⟩
      rw [hgo]
      have h7:Wu ser=false:=by
       have h8:= ‹decide (ser<0)=false›
       have h9:= ‹decide (9999<ser)=false›
       simp only [Wu,h8,h9,Bool.or_self]
      show (Wu ser||_)=_
      rw [h7]
      rfl)
   | (refine LoopI.go (m - 1) (by omega) ⟨2, _, by omega, ?_, Zh ⟨rfl, rfl, rfl, trivial⟩, rfl⟩
      rw [hgo]
      have h7:Wu fr=false:=by
       have h8:= ‹decide (fr<0)=false›
       have h9:= ‹decide (9999<fr)=false›
       simp only [Wu,h8,h9,Bool.or_self]
      show (Wu fr||_)=_
      rw [h7]
      rfl)
   | (refine LoopI.go (m - 1) (by omega) ⟨3, _, by omega, ?_, Zh ⟨rfl, rfl, rfl, trivial⟩, rfl⟩
      rw [hgo]
      have h7:Wu till=false:=by
       have h8:= ‹decide (till<0)=false›
       have h9:= ‹decide (9999<till)=false›
       simp only [Wu,h8,h9,Bool.or_self]
      show (Wu till||_)=_
      rw [h7]
      rfl)
   | trace_state
open Go.Proofs
theorem ZlT (nm:Bs) (s:Int):∀ H,CallOk E0 Tryz.prog 188 [.str nm,.int .i64 s] H (.agg (Yl nm s).cells) H:=by
 rw [ZD]
 refine Jw tOk fe188.ok rfl ?_
 repeat' first|refine Jo ?_|fail
 all_goals rfl
theorem c72 (nm:Bs) (s:Int):∀ H,CallOk E0 Tryz.prog 72 [.str nm,.int .i64 s] H (.agg (Yl nm s).cells) H:=by
 rw [ZD]
 refine Jw tOk fe72.ok rfl ?_
 repeat' first|refine Jo ?_|fail
 all_goals rfl
theorem ZnW (nm:Bs):∀ H,CallOk E0 Tryz.prog 179 [.str nm] H (.agg (Yl nm 4).cells) H:=by
 have hc:=c72 nm 4
 rw [ZD] at hc ⊢
 refine Jw tOk fe179.ok rfl ?_
 repeat' first|refine Jc (hc _) ?_|refine Jo ?_|fail
 all_goals rfl
theorem Zoi:∀ H,CallOk E0 Tryz.prog 221 [] H (.agg (Yl [101,110,100] 5).cells) H:=by
 have hc:=c72 [101,110,100] 5
 rw [ZD] at hc ⊢
 refine Jw tOk fe221.ok rfl ?_
 repeat' first|refine Jc (hc _) ?_|refine Jo ?_|fail
 all_goals rfl
open Go.Proofs
theorem ZkR {p q:PV} {n:Nat} {H:Heap} (h:frz1 p=some q):frzC n H p=some q:=by
 cases p<;>first|exact h|cases h
theorem Zqz {l:List Tm} (hne:l≠ []) (hlen:l.length≤100000) (b:Bool):∀ H,CallOk E0 Tryz.prog 195 [slV b 4 (Za l)] H (.agg (XQ l).cells) H:=by
 have hpos:0<l.length:=List.length_pos_iff.2 hne
 obtain ⟨z,hz⟩:∃ z,l[l.length-1]? = some z:=⟨l[l.length-1]'(by omega),by simp⟩
 have hz0:XQ (l.drop (l.length-1))=z:=by
  rw [ZN hz,show l.length-1+1=l.length by omega,List.drop_length]
  rfl
 have hw1:IntKind.i64.wrap (((Za l).length:Int)-1)=((l.length-1:Nat):Int):=by
  rw [Zb,show (l.length:Int)-1=((l.length-1:Nat):Int) by omega]
  exact IntWalk.i64_in _ (by omega)
 have hw2:IntKind.i64.wrap (((Za l).length:Int)-2)=(l.length:Int)-2:=by
  rw [Zb];exact IntWalk.i64_in _ (by omega)
 have hi0:Zo E0 22 (slV b 4 (Za l)) (.int .i64 (IntKind.i64.wrap (((Za l).length:Int)-1)))=some (.fptr z.cells 0):=by rw [hw1];exact Znu hz
 have hfr:frz3 0 hNil (.agg (XQ l).cells)=some (.agg (XQ l).cells):=by
  generalize XQ l=t
  obtain ⟨k,nm,s,tb,kids⟩:=t
  exact Z3 _ _ _ _ _ _ _
 refine Jw tOk fe195.ok hfr ?_
 obtain ⟨k,nm,s,tb,kids⟩:=z
 simp only [Tm.cells] at hi0
 repeat' first|refine JJ ?_|refine Jl ?_|refine Jo ?_|fail
 refine Wp.while (fun m tm H => ∃ (base : TM) (k : Int) (nm : List UInt8) (s : Int) (kv : PV) (b' : Bool) (kids : List Tm), m + 1 ≤ l.length ∧ XQ (l.drop m) = .mk k nm s b' kids ∧ frz1 kv = some (slV b' 4 (Za kids)) ∧ Z4 kv = true ∧
   tm=ovr base [(0,slV b 4 (Za l)),(2,.ptr 0 4 0 0),(3,.ptr 1 4 0 0),(4,.int .i64 ((m:Int)-1))]∧H=⟨[.cells 4 [[.int .i64 0,.str [],.int .i64 0,.nils]],.cells 4 [[.int .i64 k,.str nm,.int .i64 s,kv]]],0,[],0⟩)
  (fun m tm H hI=>?_) (l.length-1) _ _ ⟨_,k,nm,s,_,tb,kids,by omega,hz0,Z5 _ _ _,Ya _ _ _,Zh ⟨rfl,rfl,rfl,Zi (by rw [hw2];omega),trivial⟩,rfl⟩
 clear hi0 hw1 hw2 hz hz0 hfr
 obtain ⟨base,k,nm,s,kv,b',kids,hm,htup,hkv,hkc,rfl,rfl⟩:=hI
 have hco:[PV.int .i64 k,.str nm,.int .i64 s,kv].all Z4=true:=by simp only [List.all_cons,List.all_nil,hkc];rfl
 have hfz:Vc [PV.int .i64 k,.str nm,.int .i64 s,kv]=some [.int .i64 k,.str nm,.int .i64 s,slV b' 4 (Za kids)]:=by simp only [Vc,hkv];rfl
 cases m with
 | zero =>
   repeat' first|refine Jt ?_|refine Jo ?_|fail
   rw [show XQ l=XQ (l.drop 0) from rfl,htup]
   show frz3 _ _ (.agg _)=_
   rw [Wf]
   simp only [Ul,ZkR hkv]
   rfl
 | succ m =>
   obtain ⟨a,ha⟩:∃ a,l[m]? = some a:=⟨l[m]'(by omega),by simp⟩
   have hnext:=Zgu ha hm
   have hi1:Zo E0 22 (slV b 4 (Za l)) (.int .i64 (((m+1:Nat):Int)-1))=some (.fptr a.cells 0):=by
    rw [show ((m+1:Nat):Int)-1=(m:Int) by omega];exact Znu ha
   obtain ⟨k',nm',s',b2,kids'⟩:=a
   simp only [Tm.cells] at hi1
   repeat' first|refine Jb ?_ ?_|refine Jo ?_|refine JK ?_|refine Jh ?_|(apply Wp.drawS tOk follows;kernel_rfl;rfl)|intro hb
   · apply Zub
     · rfl
     · rfl
     · rfl
     · rfl
     · show Xf [[.int .i64 k', .str nm', .int .i64 s', slV b2 4 (Za kids')], [.int .i64 k, .str nm, .int .i64 s, kv]] = some [[.int .i64 k', .str nm', .int .i64 s', slV b2 4 (Za kids')], [.int .i64 k, .str nm, .int .i64 s, slV b' 4 (Za kids)]]
       simp only [Xf,hfz,Va]
     · rfl
     repeat' first|refine Jo ?_|refine Jh ?_|fail
     refine LoopI.go m (by omega) ⟨_,3,[112,97,105,114],0,.sl .full 4 [[.int .i64 k',.str nm',.int .i64 s',slV b2 4 (Za kids')],[.int .i64 k,.str nm,.int .i64 s,slV b' 4 (Za kids)]],true,[.mk k' nm' s' b2 kids',.mk k nm s b' kids],by omega,by rw [hnext,htup];rfl,?_,rfl,Zh ⟨rfl,rfl,rfl,Zi ?_,trivial⟩,rfl⟩
     · rw [show slV true 4 (Za [Tm.mk k' nm' s' b2 kids', Tm.mk k nm s b' kids]) = .sl .none 4 [[.int .i64 k', .str nm', .int .i64 s', slV b2 4 (Za kids')], [.int .i64 k, .str nm, .int .i64 s, slV b' 4 (Za kids)]] from Zw _ _ _ _]
       rfl
     · rw [show ((m + 1 : Nat) : Int) - 1 - 1 = (m : Int) - 1 by omega]
       exact IntWalk.i64_in _ (by omega)
   · exfalso;simp at hb<;>omega
open Go.Proofs
theorem XT (n:Nat) (t:Tm):under n (.agg t.cells)=true:=by
 obtain ⟨k,nm,s,b,kids⟩:=t
 simp [Tm.cells,under,ZP,Zp]
theorem ZB (m:Nat) (H:Heap) (t:Tm):frz3 m H (.agg t.cells)=some (.agg t.cells):=by
 obtain ⟨k,nm,s,b,kids⟩:=t
 exact Z3 _ _ _ _ _ _ _
theorem Zp8 {l:List Tm} {out:PV} {lv:List Nat} {nt:Nat} (hA:ApV true 4 (Za l) out lv nt) (hlen:l.length≤10000):∃ lv' nt',∀ bx,CallOk E0 Tryz.prog 234 [out] ⟨bx,0,lv,nt⟩ (.agg (XQ (l++ [endT])).cells) ⟨bx,0,lv',nt'⟩:=by
 obtain ⟨out',lv',nt',hap,hA', -⟩:=hA.app Yw (.sl .full 4 (Za [endT])) (Zm _) (ZU (by simp only [Zb,List.length_cons,List.length_nil];omega) (by decide)) (Zv _)
 rw [← Zk] at hA'
 rw [ZC,show endT=Yl [101,110,100] 5 from rfl,ZD] at hap
 refine ⟨lv',nt',fun bx=>?_⟩
 have hc:∀ H,CallOk E0 Tryz.prog 195 [out'] H (.agg (XQ (l++ [endT])).cells) H:=fun H=>Z8 (Zqz (l:=l++ [endT]) (by simp) (by simp;omega) true hNil) (by simp only [ZZ,hA'.frzG]) (ZB _ _ _) H
 have hat:=ZlT [101,110,100] 5
 rw [ZD] at hat
 refine CallOk.free (bx':=[.cells 4 [(XQ (l++ [endT])).cells]]) ?_ (by simp [ZP,hA.under]) (XT _ _) bx
 generalize XQ (l++ [endT])=t at hc ⊢
 obtain ⟨k,nm,s,b,kids⟩:=t
 simp only [Tm.cells] at hc ⊢
 refine ZV (own:=fun _=>false) tOk fe234.ok ?_
 refine Wp.seq ?_
 repeat' first|refine Jc (hat _) ?_|refine Jc (hc _) ?_|refine Js ?_|refine JA ?_|refine Jo ?_|fail
 exact RetE.ret rfl rfl rfl
theorem Zqq (hs:s.length≤100000) (hd:ZK s=true):∀ H,CallOk E0 Tryz.prog 196 [.str s] H (.agg (YK s).cells) H:=by
 have hc:=Zqa hs
 unfold Ue at hc
 rw [hd] at hc
 have h4:(ZE s).length≤4:=by
  unfold ZK at hd
  simp only [Bool.and_eq_true,decide_eq_true_eq] at hd
  exact hd.1
 unfold YK
 generalize ZE s=l at hc h4 ⊢
 have hc:∀ H,CallOk E0 Tryz.prog 199 [.str s] H (.sl .none 1 (ZI l)) H:=hc
 have hpl:(ZI l).length=l.length:=by simp [ZI]
 refine Jw tOk fe196.ok (ZB _ _ _) ?_
 repeat' first|refine Jc (hc _) ?_|refine Jo ?_|fail
 refine Wp.while (fun m tm H => ∃ (i : Nat) (base : TM) (out : PV) (lv : List Nat) (nt : Nat), i + m = l.length ∧ ApV true 4 (Za ((l.take i).map fun x => Yl x 4)) out lv nt ∧
   tm=ovr base [(2,.ptr 0 4 0 0),(3,out),(7,.sl .none 1 (ZI l)),(8,.int .i64 (l.length:Int)),(9,.int .i64 (i:Int))]∧H=⟨[.cells 4 [[.int .i64 0,.str [],.int .i64 0,.nils]]],0,lv,nt⟩)
  (fun m tm H hI=>?_) l.length _ _ ⟨0,_,_,_,_,by omega,.nil _ _ rfl,Zh ⟨rfl,rfl,rfl,Zi (by rw [← hpl];rfl),rfl,trivial⟩,rfl⟩
 obtain ⟨i,base,out,lv,nt,hi,hA,rfl,rfl⟩:=hI
 by_cases hlt:i<l.length
 · obtain ⟨x, hx⟩ : ∃ x, l[i]? = some x := ⟨l[i], by simp⟩
   have hia:=ZoY hx
   have hat:=ZlT x 4
   have hlen1:((l.take i).map fun x=>Yl x 4).length≤4:=by rw [List.length_map,List.length_take];omega
   obtain ⟨out',lv',nt',hap,hA', -⟩:=hA.app Yw (.sl .full 4 (Za [Yl x 4])) (Zm _) (ZU (by simp only [Zb,List.length_cons,List.length_nil];omega) (by decide)) (Zv _)
   rw [← Zk] at hA'
   have hs:((l.take i).map fun x=>Yl x 4)++ [Yl x 4]=(l.take (i+1)).map fun x=>Yl x 4:=by simp [List.take_add_one,hx]
   rw [hs] at hA'
   rw [ZC,ZD] at hap
   rw [ZD] at hat
   repeat' first|refine Jc (hat _) ?_|refine Js ?_|refine JA ?_|refine JJ ?_|refine Jz ?_ ?_|refine Jo ?_|intro hb
   · exact LoopI.go (m-1) (by omega) ⟨i+1,_,out',lv',nt',by omega,hA',Zh ⟨rfl,rfl,rfl,rfl,Zi (Zf (n:=i+1) (by omega)),trivial⟩,rfl⟩
   · exfalso;simp at hb;omega
 · have e : i = l.length := by omega
   subst e
   rw [List.take_length] at hA
   obtain ⟨lv',nt',he⟩:=Zp8 hA (by rw [List.length_map];omega)
   generalize XQ ((l.map fun x=>Yl x 4)++ [endT])=t at he ⊢
   obtain ⟨k',nm',s',b',kids'⟩:=t
   simp only [Tm.cells] at he ⊢
   repeat' first|refine Jc (he _) ?_|refine Jz ?_ ?_|refine Jo ?_|intro hb
   · exfalso;simp at hb
   · exact Z3 _ _ _ _ _ _ _
theorem Zqu (hs:∀ s,s∈l→s.length≤100000) (hd:∀ s,s∈l→ZK s=true) (hlen:l.length≤1000) (b:Bool):∀ H,CallOk E0 Tryz.prog 197 [slV b 1 (Y1 l)] H (.agg (XG l).cells) H:=by
 unfold XG
 refine Jw tOk fe197.ok (ZB _ _ _) ?_
 repeat' first|refine Jl ?_|refine Jo ?_|fail
 refine Wp.while (fun m tm H => ∃ (i : Nat) (base : TM) (out : PV) (lv : List Nat) (nt : Nat), i + m = l.length ∧ ApV true 4 (Za ((l.take i).map YK)) out lv nt ∧
   tm=ovr base [(2,.ptr 0 4 0 0),(3,out),(6,slV b 1 (Y1 l)),(7,.int .i64 (l.length:Int)),(8,.int .i64 (i:Int))]∧H=⟨[.cells 4 [[.int .i64 0,.str [],.int .i64 0,.nils]]],0,lv,nt⟩)
  (fun m tm H hI=>?_) l.length _ _ ⟨0,_,_,_,_,by omega,.nil _ _ rfl,Zh ⟨rfl,rfl,rfl,Zi (by rw [XD]),rfl,trivial⟩,rfl⟩
 obtain ⟨i,base,out,lv,nt,hi,hA,rfl,rfl⟩:=hI
 by_cases hlt:i<l.length
 · obtain ⟨x, hx⟩ : ∃ x, l[i]? = some x := ⟨l[i], by simp⟩
   have hj:=Qw hx
   have hat:=Zqq (hs x (List.mem_of_getElem? hx)) (hd x (List.mem_of_getElem? hx))
   have hlen1:((l.take i).map YK).length≤1000:=by rw [List.length_map,List.length_take];omega
   obtain ⟨out',lv',nt',hap,hA', -⟩:=hA.app Yw (.sl .full 4 (Za [YK x])) (Zm _) (ZU (by simp only [Zb,List.length_cons,List.length_nil];omega) (by decide)) (Zv _)
   rw [← Zk] at hA'
   have hs:(l.take i).map YK++ [YK x]=(l.take (i+1)).map YK:=by simp [List.take_add_one,hx]
   rw [hs] at hA'
   rw [ZC] at hap
   generalize YK x=t at hap hat
   obtain ⟨k',nm',s',b',kids'⟩:=t
   simp only [Tm.cells] at hat hap
   repeat' first|refine Jc (hat _) ?_|refine Js ?_|refine JA ?_|refine Jx ?_|refine Jz ?_ ?_|refine Jo ?_|intro hb
   · exact LoopI.go (m-1) (by omega) ⟨i+1,_,out',lv',nt',by omega,hA',Zh ⟨rfl,rfl,rfl,rfl,Zi (Zf (n:=i+1) (by omega)),trivial⟩,rfl⟩
   · exfalso;simp at hb;omega
 · have e : i = l.length := by omega
   subst e
   rw [List.take_length] at hA
   obtain ⟨lv',nt',he⟩:=Zp8 hA (by rw [List.length_map];omega)
   generalize XQ (l.map YK++ [endT])=t at he ⊢
   obtain ⟨k',nm',s',b',kids'⟩:=t
   simp only [Tm.cells] at he ⊢
   repeat' first|refine Jc (he _) ?_|refine Jz ?_ ?_|refine Jo ?_|intro hb
   · exfalso;simp at hb
   · exact Z3 _ _ _ _ _ _ _
end Go.Vm.Seat
