/-
The ring of nodes of a store in plain words. The ring of a store, in the program. Places of blocks. The law's function StorePlaces.
-/
import Derived.Test.YteadncphjconmaaGreatRT6
set_option linter.unusedVariables false
set_option linter.unusedSimpArgs false
namespace Go.Proofs.YteadncphjconmaaGreat
open Go Go.Fw
set_option maxRecDepth 100000
set_option linter.unusedVariables false
set_option linter.unusedSimpArgs false
set_option maxHeartbeats 0
def levL (k : Int) : Int → Int → List Int → List (Int × Int)
 | _,_,[]=>[]
 | f,r,n::l=>(if k < n then [(f + k,r)] else [])++levL k (f + n) (r + 1) l
def ringK (racks : List Int) : Nat → List (Int × Int)
 | 0=>[]
 | K + 1=>ringK racks K++levL K 0 0 racks
theorem levL_mem {k : Int} {z : Int × Int} : ∀ {f r : Int} {l : List Int},z ∈ levL k f r l → ∃ (j : Nat) (n : Int),l[j]? = some n ∧ k < n ∧ z.1 = f + sumI (l.take j) + k ∧ z.2 = r + j
 | _,_,[],h=>by cases h
 | f,r,n::l,h=>by
  rw [levL] at h
  rcases List.mem_append.1 h with h | h
  ·split at h
   ·rename_i hk
    rw [List.mem_singleton.1 h]
    exact ⟨0,n,rfl,hk,by rw [List.take_zero,sumI];omega,by omega⟩
   ·cases h
  ·obtain ⟨j,m,h1,h2,h3,h4⟩:=levL_mem h
   refine ⟨j + 1,m,by rw [List.getElem?_cons_succ];exact h1,h2,?_,?_⟩
   ·rw [List.take_succ_cons,sumI,h3];omega
   ·rw [h4];omega
theorem sumI_mono {l : List Int} (h : ∀ x ∈ l,0 ≤ x) {i j : Nat} (hij : i ≤ j) : sumI (l.take i) ≤ sumI (l.take j):=by
 have:=(sumI_take (l:=l.take j) (fun x hx=>h x (List.mem_of_mem_take hx)) i).2
 rwa [List.take_take,Nat.min_eq_left hij] at this
theorem node_one {l : List Int} (h0 : ∀ x ∈ l,0 ≤ x) {i j : Nat} {n m k k' : Int} (hi : l[i]? = some n) (hj : l[j]? = some m) (h1 : 0 ≤ k) (h2 : k < n) (h3 : 0 ≤ k') (h4 : k' < m) (he : sumI (l.take i) + k = sumI (l.take j) + k') : i = j ∧ k = k':=by
 rcases Nat.lt_trichotomy i j with h | h | h
 ·have:=sumI_mono h0 (show i + 1 ≤ j by omega)
  rw [sumI_snoc hi] at this;omega
 ·subst h;exact ⟨rfl,by omega⟩
 ·have:=sumI_mono h0 (show j + 1 ≤ i by omega)
  rw [sumI_snoc hj] at this;omega
theorem levL_sorted {k : Int} (hk : 0 ≤ k) : ∀ {f r : Int} {l : List Int},(∀ x ∈ l,0 ≤ x) → (levL k f r l).Pairwise fun a b=>a.1 < b.1
 | _,_,[],_=>.nil
 | f,r,n::l,h=>by
  have hl : ∀ x ∈ l,0 ≤ x:=fun x hx=>h x (.tail _ hx)
  rw [levL,List.pairwise_append]
  refine ⟨by split <;> simp,levL_sorted hk hl,fun a ha b hb=>?_⟩
  split at ha
  ·rename_i hkn
   rw [List.mem_singleton.1 ha]
   obtain ⟨j,m,h1,h2,h3,h4⟩:=levL_mem hb
   have:=(sumI_take hl j).1
   rw [h3];show f + k < _;omega
  ·cases ha
theorem ring_mem {racks : List Int} {z : Int × Int} : ∀ {K : Nat},z ∈ ringK racks K → ∃ (k j : Nat) (n : Int),k < K ∧ racks[j]? = some n ∧ (k : Int) < n ∧ z.1 = sumI (racks.take j) + k ∧ z.2 = j
 | 0,h=>by cases h
 | K + 1,h=>by
  rw [ringK] at h
  rcases List.mem_append.1 h with h | h
  ·obtain ⟨k,j,n,h1,h2,h3,h4,h5⟩:=ring_mem h
   exact ⟨k,j,n,by omega,h2,h3,h4,h5⟩
  ·obtain ⟨j,n,h1,h2,h3,h4⟩:=levL_mem h
   exact ⟨K,j,n,by omega,h1,h2,by rw [h3];omega,by rw [h4];omega⟩
theorem ring_nodup {racks : List Int} (h0 : ∀ x ∈ racks,0 ≤ x) : ∀ {K : Nat},((ringK racks K).map Prod.fst).Nodup
 | 0=>List.nodup_nil
 | K + 1=>by
  rw [ringK,List.map_append,List.nodup_append]
  refine ⟨ring_nodup h0,?_,?_⟩
  ·rw [List.Nodup,List.pairwise_map]
   exact (levL_sorted (by omega) h0).imp fun {a b} h e=>by omega
  ·intro a ha b hb e
   subst e
   obtain ⟨u,hu,rfl⟩:=List.mem_map.1 ha
   obtain ⟨v,hv,he⟩:=List.mem_map.1 hb
   obtain ⟨k,j,n,h1,h2,h3,h4,h5⟩:=ring_mem hu
   obtain ⟨i,m,g1,g2,g3,g4⟩:=levL_mem hv
   have:=node_one h0 h2 g1 (by omega) h3 (by omega) g2 (by omega)
   omega
theorem levL_len {k : Nat} : ∀ {f r : Int} {l : List Int},((levL k f r l).length : Int) = sumI (l.map fun n=>min n ((k + 1 : Nat) : Int)) - sumI (l.map fun n=>min n (k : Int))
 | _,_,[]=>rfl
 | f,r,n::l=>by
  have ih:=levL_len (k:=k) (f:=f + n) (r:=r + 1) (l:=l)
  rw [levL,List.length_append,List.map_cons,List.map_cons,sumI,sumI]
  split
  ·rw [List.length_singleton];omega
  ·rw [List.length_nil];omega
theorem sumI_min0 : ∀ {l : List Int},(∀ x ∈ l,0 ≤ x) → sumI (l.map fun n=>min n ((0 : Nat) : Int)) = 0
 | [],_=>rfl
 | n::l,h=>by
  rw [List.map_cons,sumI,sumI_min0 fun x hx=>h x (.tail _ hx)]
  have:=h n (.head _);omega
theorem ring_len {racks : List Int} (h0 : ∀ x ∈ racks,0 ≤ x) : ∀ {K : Nat},((ringK racks K).length : Int) = sumI (racks.map fun n=>min n (K : Int))
 | 0=>(sumI_min0 h0).symm
 | K + 1=>by
  rw [ringK,List.length_append]
  have:=ring_len h0 (K:=K)
  have h2:=levL_len (k:=K) (f:=0) (r:=0) (l:=racks)
  omega
theorem sumI_minle {K : Int} : ∀ {l : List Int},sumI (l.map fun n=>min n K) ≤ sumI l
 | []=>Int.le_refl _
 | n::l=>by
  have:=sumI_minle (K:=K) (l:=l)
  rw [List.map_cons,sumI,sumI];omega
theorem sumI_minlt {K x : Int} : ∀ {l : List Int},x ∈ l → K < x → sumI (l.map fun n=>min n K) < sumI l
 | n::l,h,hx=>by
  have h1:=sumI_minle (K:=K) (l:=l)
  rw [List.map_cons,sumI,sumI]
  rcases List.mem_cons.1 h with rfl | h
  ·omega
  ·have:=sumI_minlt h hx;omega
theorem sumI_mineq {K : Int} : ∀ {l : List Int},(∀ x ∈ l,x ≤ K) → sumI (l.map fun n=>min n K) = sumI l
 | [],_=>rfl
 | n::l,h=>by
  have h1:=sumI_mineq (K:=K) (l:=l) fun x hx=>h x (.tail _ hx)
  have:=h n (.head _)
  rw [List.map_cons,sumI,sumI];omega
theorem levL_nil {k : Int} : ∀ {f r : Int} {l : List Int},(∀ x ∈ l,x ≤ k) → levL k f r l = []
 | _,_,[],_=>rfl
 | f,r,n::l,h=>by
  rw [levL,levL_nil fun x hx=>h x (.tail _ hx),if_neg (by have:=h n (.head _);omega)];rfl
theorem ring_add {racks : List Int} {K : Nat} (h : ∀ x ∈ racks,x ≤ (K : Int)) : ∀ d : Nat,ringK racks (K + d) = ringK racks K
 | 0=>rfl
 | d + 1=>by
  rw [← Nat.add_assoc,ringK,ring_add h d,levL_nil fun x hx=>by have:=h x hx;omega,List.append_nil]
def ringL (racks : List Int) : List (Int × Int):=ringK racks (maxL 0 racks).toNat
theorem maxL_le {m : Int} {l : List Int} : m ≤ maxL m l ∧ ∀ x ∈ l,x ≤ maxL m l:=by
 refine ⟨?_,fun x hx=>?_⟩
 ·by_cases h : maxL m l < m
  ·have:=(maxL_gt (c:=maxL m l) (m:=m) (l:=l)).2 (.inl h);omega
  ·omega
 ·by_cases h : maxL m l < x
  ·have:=(maxL_gt (c:=maxL m l) (m:=m) (l:=l)).2 (.inr ⟨x,hx,h⟩);omega
  ·omega
theorem ring_all {racks : List Int} {K : Nat} (h : ∀ x ∈ racks,x ≤ (K : Int)) : ringK racks K = ringL racks:=by
 have h1:=maxL_le (m:=0) (l:=racks)
 have h2 : maxL 0 racks ≤ K:=by
  by_cases h3 : (K : Int) < maxL 0 racks
  ·rcases maxL_gt.1 h3 with h4 | ⟨x,hx,h4⟩
   ·omega
   ·have:=h x hx;omega
  ·omega
 obtain ⟨d,rfl⟩ : ∃ d,K = (maxL 0 racks).toNat + d:=⟨K - (maxL 0 racks).toNat,by omega⟩
 exact ring_add (fun x hx=>by have:=h1.2 x hx;omega) d
theorem ring_full {racks : List Int} (h0 : ∀ x ∈ racks,0 ≤ x) : ((ringL racks).length : Int) = sumI racks:=by
 have h1:=maxL_le (m:=0) (l:=racks)
 rw [ringL,ring_len h0]
 exact sumI_mineq fun x hx=>by have:=h1.2 x hx;omega
theorem ring_end {racks : List Int} (h0 : ∀ x ∈ racks,0 ≤ x) {K : Nat} (h : sumI racks ≤ ((ringK racks K).length : Int)) : ringK racks K = ringL racks :=
 ring_all fun x hx=>by
  by_cases h1 : (K : Int) < x
  ·rw [ring_len h0] at h
   have:=sumI_minlt hx h1;omega
  ·omega
theorem ring_more {racks : List Int} (h0 : ∀ x ∈ racks,0 ≤ x) {K : Nat} (h : ((ringK racks K).length : Int) < sumI racks) : ∃ x ∈ racks,(K : Int) < x :=
 Classical.byContradiction fun hn=>by
  rw [ring_len h0,sumI_mineq fun x hx=>by
   by_cases h1 : (K : Int) < x
   ·exact absurd ⟨x,hx,h1⟩ hn
   ·omega] at h
  omega
abbrev plI (t s b : Nat) : Nat:=(s % t + b) % t
theorem pl_inj {t s b c : Nat} (hb : b < t) (hc : c < t) (h : plI t s b = plI t s c) : b = c:=by
 have hs : s % t < t:=Nat.mod_lt _ (by omega)
 have e : ∀ x,x < t → plI t s x = if s % t + x < t then s % t + x else s % t + x - t:=fun x hx=>by
  show (s % t + x) % t = _
  split
  ·exact Nat.mod_eq_of_lt ‹_›
  ·rw [Nat.mod_eq_sub_mod (by omega)];exact Nat.mod_eq_of_lt (by omega)
 rw [e b hb,e c hc] at h
 split at h <;> split at h <;> omega
section
variable {P M N dd W : Int} {n c nm cm nt ct nr cr : Nat} {pm ps pt pr : Option Addr} {md racks : List Int} {rows sets : List (List Int)}
theorem S_store_ring (h1 : 1 ≤ racks.length) (h0 : ∀ x ∈ racks,0 ≤ x) (hs : sumI racks ≤ 256) (hl : racks.length ≤ 64) : Ctr Tryz.prog 35 [.agg #[.int .i64 P,.int .i64 M,.slice pm nm cm,.int .i64 N,.slice ps n c,.int .i64 dd,.slice pt nt ct,.slice pr nr cr,.int .i64 W]] [] [slF I64 pr nr cr racks]
  (fun v Φ β=>∃ (pb : Option Addr) (cb : Nat),v = .slice pb (ringL racks).length cb ∧ Φ = [slF HostE pb (ringL racks).length cb (ringL racks)] ∧ β = []):=by
 refine Ctr_of_j' (F:=F_store_ring) rfl fun C=>?_
 refine j_len 0 rfl fun hn hb _=>?_
 subst hn
 obtain ⟨x,l,hxl⟩ : ∃ x l,racks = x::l:=by
  cases racks with
  | nil=>exact absurd h1 (by simp)
  | cons x l=>exact ⟨x,l,rfl⟩
 have hmx : maxL x l = maxL 0 racks:=by
  have:=h0 x (by rw [hxl];exact .head _)
  rw [hxl,maxL]
  congr 1
  split <;> omega
 have hmr:=maxL_le (m:=0) (l:=racks)
 have hmb : maxL 0 racks ≤ 256:=by
  by_cases h : 256 < maxL 0 racks
  ·rcases maxL_gt.1 h with h | ⟨y,hy,h⟩
   ·omega
   ·obtain ⟨j,hj⟩:=List.getElem?_of_mem hy
    have a1:=sumI_take h0 j
    have a2:=sumI_take h0 (j + 1)
    rw [sumI_snoc hj] at a2
    omega
  ·omega
 obtain ⟨mx0,hmx0⟩:=Int.eq_ofNat_of_zero_le hmr.1
 have c_slices_Max___int_int_ : ∀ {pl : Option Addr} {k c : Nat},Ctr Tryz.prog 66 [.slice pl k c] [] [slF I64 pl k c racks] (Rv (.int .i64 mx0) []):=fun {pl k c}=>by
  rw [← hmx0,← hmx,hxl]
  exact S_slices_Max___int_int_ (fun y hy=>by
   rw [← hxl] at hy
   have a0:=h0 y hy
   have a1:=hmr.2 y hy
   simp only [InR];omega)
 have hK : ∀ K,(ringK racks K).length ≤ 256:=fun K=>by
  have h1:=ring_len h0 (K:=K)
  have h2:=sumI_minle (K:=(K : Int)) (l:=racks)
  omega
 have eR : ringL racks = ringK racks mx0:=by rw [ringL,hmx0,Int.toNat_natCast]
 rw [eR]
 refine wk 8 cz ?_
 intro b1
 refine j_step rfl (x_call [0] rfl (c_slices_Max___int_int_) rfl ?_)
 rintro _ _ _ ⟨rfl,rfl,rfl⟩
 simp only [List.cons_append,List.nil_append]
 refine wk 2 cz ?_
 refine j_row0 HostE 65 ?_
 refine j_loopG (X:=Nat × Row) [1,2,10] [0,1] (fun z=>[(11,.int .i64 (z.1 : Int)),(3,.slice (ad z.2.bo) (ringK racks z.1).length z.2.cap)]) (fun z=>(z.2.bo,65,z.2.cs)::_) (fun z=>[rowF HostE z.2 (ringK racks z.1).length (ringK racks z.1)]) (fun z=>z.1 ≤ mx0) (fun z=>mx0 - z.1) (0,⟨none,0,[]⟩) [0] rfl rfl rfl (Nat.zero_le _) (by repeat (first | exact Fr.sub_nil _ | refine Fr.sub_cons rfl ?_)) rfl rfl ?_
 rintro ⟨k,r⟩ hk ih
 simp only [List.cons_append,List.nil_append] at hk ih ⊢
 by_cases h9 : k < mx0
 ·have ih1:=fun r=>ih (k + 1,r) (by dsimp only;omega) (by dsimp only;omega)
  dsimp only at ih1
  have hK1:=hK (k + 1)
  rw [ringK,List.length_append] at hK1
  refine wk 14 cz ?_
  intro h2
  refine j_loopG (X:=Nat × Row × List (Int × Int)) [1,2,4,10,11,12,13,14,15,16] [0,1,2] (fun z=>[(17,.int .i64 (z.1 : Int)),(3,.slice (ad z.2.1.bo) z.2.2.length z.2.1.cap),(5,.int .i64 (sumI (racks.take z.1)))]) (fun z=>(z.2.1.bo,65,z.2.1.cs)::_) (fun z=>[rowF HostE z.2.1 z.2.2.length z.2.2]) (fun z=>z.1 ≤ racks.length ∧ z.2.2++levL k (sumI (racks.take z.1)) z.1 (racks.drop z.1) = ringK racks (k + 1)) (fun z=>racks.length - z.1) (0,r,ringK racks k) [0] rfl rfl rfl ⟨Nat.zero_le _,rfl⟩ (by repeat (first | exact Fr.sub_nil _ | refine Fr.sub_cons rfl ?_)) rfl rfl ?_
  rintro ⟨j,r,y⟩ ⟨hj,hy⟩ ih
  simp only [List.cons_append,List.nil_append] at hj hy ih ⊢
  have hst:=sumI_take h0 j
  have hyl : y.length ≤ 256:=by
   have:=congrArg List.length hy
   rw [List.length_append] at this
   have:=hK (k + 1)
   omega
  by_cases hjl : j < racks.length
  ·obtain ⟨n,at_n⟩ : ∃ n,racks[j]? = some n:=⟨_,List.getElem?_eq_getElem hjl⟩
   have hn0:=h0 n (List.mem_of_getElem? at_n)
   have hst2:=sumI_take h0 (j + 1)
   rw [sumI_snoc at_n] at hst2
   have e3 : racks.drop j = n::racks.drop (j + 1):=by
    rw [List.drop_eq_getElem_cons hjl];rw [List.getElem?_eq_getElem hjl] at at_n;rw [Option.some.inj at_n]
   rw [e3,levL,show ((j : Int) + 1) = ((j + 1 : Nat) : Int) by omega,← sumI_snoc at_n] at hy
   by_cases hkn : (k : Int) < n
   ·rw [if_pos hkn,← List.append_assoc] at hy
    have ih2:=fun r=>ih (j + 1,r,y++[(sumI (racks.take j) + k,(j : Int))]) (by dsimp only;omega) (by dsimp only;exact ⟨by omega,hy⟩)
    dsimp only at ih2
    rw [sumI_snoc at_n] at ih2
    simp only [List.length_append,List.length_singleton] at ih2
    generalize sumI (racks.take j) = f at *
    refine wk 7 cz ?_
    intro h3 b2 o1 hz1
    refine j_step rfl (x_ld_int 0 rfl rfl ld3 fun ⟨r1,r2⟩=>?_)
    refine wk 9 cz ?_
    intro h4 b3
    refine j_step rfl (x_appR (z:=((f + ↑k : Int),(↑j : Int))) 1 0 1 rfl rfl rfl rfl rfl sl67 zo67e rfl (fun w A hG=>(rd_pair (v1:=[Value.int IntKind.i64 (f + ↑k)]) (rd_int (by first | (simp only [InR];omega) | (simp [InR];done))) (rd_int (by first | (simp only [InR];omega) | (simp [InR];done))))) (by omega) _ by67e (by omega) fun r3=>?_)
    refine wk 6 cz ?_
    refine j_toM [true,false,true] [0,3,4,5] (by exact fra rfl) rfl rfl (ih2 r3)
   ·rw [if_neg hkn,List.nil_append] at hy
    have ih2:=ih (j + 1,r,y) (by dsimp only;omega) (by dsimp only;exact ⟨by omega,hy⟩)
    dsimp only at ih2
    rw [sumI_snoc at_n] at ih2
    generalize sumI (racks.take j) = f at *
    refine wk 7 cz ?_
    intro h3 b2 o1 hz1
    refine j_step rfl (x_ld_int 0 rfl rfl ld3 fun ⟨r1,r2⟩=>?_)
    refine wk 10 cz ?_
    intro h4
    exact tw (ih2)
  ·obtain rfl : j = racks.length:=by omega
   rw [List.drop_length,levL,List.append_nil] at hy
   subst hy
   clear ih
   refine wk 7 cz ?_
   intro h3
   exact tw (ih1 r)
 ·obtain rfl : k = mx0:=by omega
  clear ih
  have:=hK k
  refine wk 7 cz ?_
  intro h2
  refine j_pubR 0 0 rfl rfl (by show _ * 16 ≤ 140737488355328;omega) ?_
  simp only [List.eraseIdx_cons_zero,List.eraseIdx_cons_succ]
  refine j_giv [0] rfl rfl rfl ⟨_,_,rfl,rfl,rfl⟩
end
open Go Go.Fw
set_option maxRecDepth 100000
set_option linter.unusedVariables false
set_option linter.unusedSimpArgs false
set_option maxHeartbeats 0
theorem S_store_at {po : Option Addr} {no co s b : Nat} {L : List (Int × Int)} {z : Int × Int} (hl : L.length ≤ 256) (hb : b ≤ 1000) (hz : L[plI L.length s b]? = some z) : Ctr Tryz.prog 34 [.slice po no co,.int .i64 s,.int .i64 b] [] [slF HostE po no co L] (Rv (.agg #[.int .i64 z.1,.int .i64 z.2]) []):=by
 refine Ctr_of_j' (F:=F_store_at) rfl fun C=>?_
 refine j_len 0 rfl fun hn hb2 _=>?_
 subst hn
 have h0 : 0 < L.length:=by have:=(List.getElem?_eq_some_iff.1 hz).1;omega
 have h1 : s % L.length < L.length:=Nat.mod_lt _ h0
 have h2 : (s % L.length + b) % L.length < L.length:=Nat.mod_lt _ h0
 have at_z : L[(s % L.length + b) % L.length]? = some z:=hz
 refine wk 8 cz ?_
 intro b1
 refine j_step rfl (x_idx 0 ((((s) % (L.length)) + (b)) % (L.length)) rfl rfl rfl sl67 ?_ ?_ fun z1 hz1 b2 o1=>?_)
 ·rw [Int.natCast_emod,Int.natCast_add,Int.natCast_emod]
 ·exact h2
 ·obtain rfl : z1 = z:=Option.some.inj (hz1.symm.trans at_z)
  refine wk 3 cz ?_
  intro g1
  refine j_givC [] rfl (.agg 0 rfl rfl ld65 rfl .nil) rfl ⟨rfl,rfl,rfl⟩
section
variable {P M N dd W : Int} {n c nm cm nt ct nr cr : Nat} {pm ps pt pr : Option Addr} {md racks : List Int} {rows sets : List (List Int)}
theorem sumI_mem {l : List Int} (h0 : ∀ x ∈ l,0 ≤ x) {x : Int} (hx : x ∈ l) : x ≤ sumI l:=by
 obtain ⟨j,hj⟩:=List.getElem?_of_mem hx
 have a1:=sumI_take h0 j
 have a2:=sumI_take h0 (j + 1)
 rw [sumI_snoc hj] at a2
 omega
abbrev nodL (racks : List Int) : List Int:=(ringL racks).map Prod.fst
theorem S_codewrightref54_Ring (h0 : ∀ x ∈ racks,0 ≤ x) (hs : sumI racks ≤ 256) : Ctr Tryz.prog 67 [.agg #[.int .i64 P,.int .i64 M,.slice pm nm cm,.int .i64 N,.slice ps n c,.int .i64 dd,.slice pt nt ct,.slice pr nr cr,.int .i64 W]] [] [slF I64 pr nr cr racks]
  (fun v Φ β=>∃ (pb : Option Addr) (cb : Nat),v = .slice pb (ringL racks).length cb ∧ Φ = [slF I64 pb (ringL racks).length cb (nodL racks)] ∧ β = []):=by
 refine Ctr_of_j' (F:=F_codewrightref54_Ring) rfl fun C=>?_
 refine j_len 0 rfl fun hn hb _=>?_
 subst hn
 have hb' : racks.length * 8 ≤ 140737488355328:=hb
 have hmr:=maxL_le (m:=0) (l:=racks)
 have hK : ∀ K,(ringK racks K).length ≤ 256:=fun K=>by
  have h1:=ring_len h0 (K:=K)
  have h2:=sumI_minle (K:=(K : Int)) (l:=racks)
  omega
 have c_codewrightref54_Hosts:=fun {P M N dd W : Int} {n c nm cm nt ct nr cr : Nat} {pm ps pt pr : Option Addr}=>S_codewrightref54_Hosts (P:=P) (M:=M) (N:=N) (dd:=dd) (W:=W) (n:=n) (c:=c) (nm:=nm) (cm:=cm) (nt:=nt) (ct:=ct) (nr:=nr) (cr:=cr) (pm:=pm) (ps:=ps) (pt:=pt) (pr:=pr) h0 (by omega)
 obtain ⟨hosts,hh⟩:=Int.eq_ofNat_of_zero_le (sumI_nn h0)
 rw [hh] at c_codewrightref54_Hosts
 refine wk 9 cz ?_
 intro b1 b2
 (apply j_rowlit (E:=I64) (n:=0) (cs:=[]) [] [] 0 (fun w A hG=>allrd_nil);(· rfl);(· rfl);(· rfl);(· rfl);(· decide))
 refine j_loopG (X:=Nat × Row × List (Int × Int)) [1,2] [0,1] (fun z=>[(4,.int .i64 (z.1 : Int)),(3,.slice (ad z.2.1.bo) z.2.2.length z.2.1.cap)]) (fun z=>(z.2.1.bo,3,z.2.1.cs)::_) (fun z=>[rowF I64 z.2.1 z.2.2.length (z.2.2.map Prod.fst)]) (fun z=>z.1 ≤ 256 ∧ z.2.2 = ringK racks z.1) (fun z=>256 - z.1) (0,⟨some b2,0,[]⟩,[]) [0] rfl rfl rfl ⟨Nat.zero_le _,rfl⟩ (by repeat (first | exact Fr.sub_nil _ | refine Fr.sub_cons rfl ?_)) rfl rfl ?_
 rintro ⟨k,r,y⟩ ⟨hk,hy⟩ ih
 simp only [List.cons_append,List.nil_append] at hk hy ih ⊢
 have hyl:=hK k
 rw [← hy] at hyl
 by_cases h9 : (y.length : Int) < hosts
 ·have hk1 : k + 1 ≤ 256:=by
   rw [hy,← hh] at h9
   obtain ⟨x,hx,hkx⟩:=ring_more h0 h9
   have:=sumI_mem h0 hx
   omega
  have ih1:=fun r=>ih (k + 1,r,ringK racks (k + 1)) (by dsimp only;omega) (by dsimp only;exact ⟨by omega,rfl⟩)
  dsimp only at ih1
  refine wk 4 cz ?_
  refine j_step rfl (x_call [2] rfl (c_codewrightref54_Hosts) rfl ?_)
  rintro _ _ _ ⟨rfl,rfl,rfl⟩
  simp only [List.cons_append,List.nil_append]
  refine wk 8 cz ?_
  intro h1
  refine j_loopG (X:=Nat × Row × List (Int × Int)) [1,2,4,8,9,10,11,12] [0,1,2] (fun z=>[(6,.int .i64 (z.1 : Int)),(3,.slice (ad z.2.1.bo) z.2.2.length z.2.1.cap),(5,.int .i64 (sumI (racks.take z.1)))]) (fun z=>(z.2.1.bo,3,z.2.1.cs)::_) (fun z=>[rowF I64 z.2.1 z.2.2.length (z.2.2.map Prod.fst)]) (fun z=>z.1 ≤ racks.length ∧ z.2.2++levL k (sumI (racks.take z.1)) z.1 (racks.drop z.1) = ringK racks (k + 1)) (fun z=>racks.length - z.1) (0,r,y) [0] rfl rfl rfl ⟨Nat.zero_le _,by rw [hy];rfl⟩ (by repeat (first | exact Fr.sub_nil _ | refine Fr.sub_cons rfl ?_)) rfl rfl ?_
  rintro ⟨j,r,y⟩ ⟨hj,hy⟩ ih
  simp only [List.cons_append,List.nil_append] at hj hy ih ⊢
  have hst:=sumI_take h0 j
  have hyl : y.length ≤ 256:=by
   have:=congrArg List.length hy
   rw [List.length_append] at this
   have:=hK (k + 1)
   omega
  by_cases hjl : j < racks.length
  ·obtain ⟨n,at_n⟩ : ∃ n,racks[j]? = some n:=⟨_,List.getElem?_eq_getElem hjl⟩
   have hn0:=h0 n (List.mem_of_getElem? at_n)
   have hst2:=sumI_take h0 (j + 1)
   rw [sumI_snoc at_n] at hst2
   have e3 : racks.drop j = n::racks.drop (j + 1):=by
    rw [List.drop_eq_getElem_cons hjl];rw [List.getElem?_eq_getElem hjl] at at_n;rw [Option.some.inj at_n]
   rw [e3,levL,show ((j : Int) + 1) = ((j + 1 : Nat) : Int) by omega,← sumI_snoc at_n] at hy
   by_cases hkn : (k : Int) < n
   ·rw [if_pos hkn,← List.append_assoc] at hy
    have ih2:=fun r=>ih (j + 1,r,y++[(sumI (racks.take j) + k,(j : Int))]) (by dsimp only;omega) (by dsimp only;exact ⟨by omega,hy⟩)
    dsimp only at ih2
    rw [sumI_snoc at_n] at ih2
    simp only [List.length_append,List.length_singleton,List.map_append,List.map_cons,List.map_nil] at ih2
    generalize sumI (racks.take j) = f at *
    refine wk 14 cz ?_
    intro h2 b3 o1 hz1
    refine j_step rfl (x_ld_int 0 rfl rfl ld3 fun ⟨r1,r2⟩=>?_)
    refine wk 6 cz ?_
    intro h3 b4
    refine j_step rfl (x_appR (z:=(f + ↑k : Int)) 1 0 1 rfl rfl rfl rfl rfl sl22 zo22e rfl (fun w A hG=>(rd_int (by first | (simp only [InR];omega) | (simp [InR];done)))) (by omega) _ by22e (by omega) fun r3=>?_)
    refine wk 7 cz ?_
    intro b5 o2 hz2
    refine j_step rfl (x_ld_int 0 rfl rfl ld3 fun ⟨r4,r5⟩=>?_)
    refine wk 4 cz ?_
    refine j_toM [true,false,true] [1,4,5,6] (by exact fra rfl) rfl rfl (ih2 r3)
   ·rw [if_neg hkn,List.nil_append] at hy
    have ih2:=ih (j + 1,r,y) (by dsimp only;omega) (by dsimp only;exact ⟨by omega,hy⟩)
    dsimp only at ih2
    rw [sumI_snoc at_n] at ih2
    generalize sumI (racks.take j) = f at *
    refine wk 14 cz ?_
    intro h2 b3 o1 hz1
    refine j_step rfl (x_ld_int 0 rfl rfl ld3 fun ⟨r1,r2⟩=>?_)
    refine wk 9 cz ?_
    intro h3 b4 o2 hz2
    refine j_step rfl (x_ld_int 0 rfl rfl ld3 fun ⟨r3,r4⟩=>?_)
    refine wk 4 cz ?_
    exact tw (ih2)
  ·obtain rfl : j = racks.length:=by omega
   rw [List.drop_length,levL,List.append_nil] at hy
   subst hy
   clear ih
   refine wk 11 cz ?_
   intro h2
   exact tw (ih1 r)
 ·clear ih
  have e : y = ringL racks:=by rw [hy];exact ring_end h0 (by rw [← hy,hh];omega)
  rw [← e,nodL,← e]
  clear hy e
  refine wk 4 cz ?_
  refine j_step rfl (x_call [2] rfl (c_codewrightref54_Hosts) rfl ?_)
  rintro _ _ _ ⟨rfl,rfl,rfl⟩
  simp only [List.cons_append,List.nil_append]
  refine wk 6 cz ?_
  intro h1
  refine j_pubR 0 0 rfl rfl (by show y.length * 8 ≤ 140737488355328;omega) ?_
  simp only [List.eraseIdx_cons_zero,List.eraseIdx_cons_succ]
  refine j_giv [0] rfl rfl rfl ⟨_,_,rfl,rfl,rfl⟩
theorem S_codewrightref54_At {s b : Nat} {z : Int × Int} (h0 : ∀ x ∈ racks,0 ≤ x) (hs : sumI racks ≤ 256) (hb : b ≤ 1000) (hz : (ringL racks)[plI (ringL racks).length s b]? = some z) : Ctr Tryz.prog 36 [.agg #[.int .i64 P,.int .i64 M,.slice pm nm cm,.int .i64 N,.slice ps n c,.int .i64 dd,.slice pt nt ct,.slice pr nr cr,.int .i64 W],.int .i64 s,.int .i64 b] [] [slF I64 pr nr cr racks] (Rv (.int .i64 z.1) []):=by
 refine Ctr_of_j' (F:=F_codewrightref54_At) rfl fun C=>?_
 have c_codewrightref54_Hosts:=fun {P M N dd W : Int} {n c nm cm nt ct nr cr : Nat} {pm ps pt pr : Option Addr}=>S_codewrightref54_Hosts (P:=P) (M:=M) (N:=N) (dd:=dd) (W:=W) (n:=n) (c:=c) (nm:=nm) (cm:=cm) (nt:=nt) (ct:=ct) (nr:=nr) (cr:=cr) (pm:=pm) (ps:=ps) (pt:=pt) (pr:=pr) h0 (by omega)
 have c_codewrightref54_Ring:=fun {P M N dd W : Int} {n c nm cm nt ct nr cr : Nat} {pm ps pt pr : Option Addr}=>S_codewrightref54_Ring (P:=P) (M:=M) (N:=N) (dd:=dd) (W:=W) (n:=n) (c:=c) (nm:=nm) (cm:=cm) (nt:=nt) (ct:=ct) (nr:=nr) (cr:=cr) (pm:=pm) (ps:=ps) (pt:=pt) (pr:=pr) h0 hs
 have hf:=ring_full h0
 rw [← hf] at c_codewrightref54_Hosts
 have hl : (ringL racks).length ≤ 256:=by omega
 have ht : 0 < (ringL racks).length:=by have:=(List.getElem?_eq_some_iff.1 hz).1;omega
 have h1 : s % (ringL racks).length < (ringL racks).length:=Nat.mod_lt _ ht
 have h2 : (s % (ringL racks).length + b) % (ringL racks).length < (ringL racks).length:=Nat.mod_lt _ ht
 have hz' : (nodL racks)[plI (ringL racks).length s b]? = some z.1:=by rw [nodL,List.getElem?_map,hz];rfl
 have hnl : (nodL racks).length = (ringL racks).length:=List.length_map _
 generalize nodL racks = L at *
 generalize (ringL racks).length = t at *
 have at_z : L[(s % t + b) % t]? = some z.1:=hz'
 have hq : ((s : Int) % t + b) % t = (((s % t + b) % t : Nat) : Int):=by rw [Int.natCast_emod,Int.natCast_add,Int.natCast_emod]
 have hgz:=gd_at at_z
 refine wk 5 cz ?_
 intro b1
 refine j_step rfl (x_call [0] rfl (c_codewrightref54_Hosts) rfl ?_)
 rintro _ _ _ ⟨rfl,rfl,rfl⟩
 simp only [List.cons_append,List.nil_append]
 refine wk 2 cz ?_
 (apply j_drawK it mx 11;(· rfl);(· rfl))
 (apply lxk_eq;(· rfl);(· exact d_bld_all 0 rfl rfl ld31 rfl))
 (apply lxk_sl;(· rfl);(· exact d_x fun _=>x_call [0] rfl (c_codewrightref54_Ring) rfl (by rintro _ _ _ ⟨pb1,cb1,rfl,rfl,rfl⟩;exact (dk_sl 0 rfl)));intro pa1 ca1)
 (apply lxk_run 7;(· rfl);(· exact ⟨⟨by omega,by omega⟩,trivial,⟨by omega,by omega⟩,trivial,⟨by omega,by omega⟩,trivial,trivial,trivial⟩))
 (apply lxk_pt;(· rfl);(· exact d_x fun _=>x_idx 0 ((((s) % (t)) + (b)) % (t)) rfl rfl rfl sl22 (by omega) (by omega) fun z1 hz1 b2 o1=>(dk_ptD default hz1 0 rfl));intro b2 o1)
 (apply lxk_eq;(· rfl);(· exact d_x fun _=>x_ld_int 0 rfl rfl ld3 fun ⟨r1,r2⟩=>dk_eq))
 refine lxk_end rfl ?_
 simp only [List.map_cons,List.map_nil,List.cons_append,List.nil_append]
 refine wk 2 cz ?_
 rw [hgz]
 exact ge
end
structure CfOk (p m : Nat) (md : List Int) (N : Nat) (rows : List (List Int)) (dd : Int) (sets : List (List Int)) (racks : List Int) (W : Int) : Prop where
 CC : Cok p m md N rows
 k1 : 1 ≤ rows.length
 cd : cdE p m md N rows dd sets = 0
 cum : cumN N (((dd - 1) / 2).toNat + 1) ≤ 65536
 w1 : 1 ≤ W
 w2 : W ≤ 16
 r1 : 1 ≤ racks.length
 r2 : racks.length ≤ 64
 rp : ∀ x ∈ racks,1 ≤ x
 r3 : sumI racks ≤ 256
 r4 : (N : Int) ≤ sumI racks
theorem cf_ok {P M N dd W : Int} {md racks : List Int} {rows sets : List (List Int)} (h : cfE P M md N rows dd sets racks W = 0) : ∃ p m n : Nat,P = p ∧ M = m ∧ N = n ∧ CfOk p m md n rows dd sets racks W:=by
 rw [cfE] at h
 by_cases hc : ckE P M md N rows = 0
 ·rw [if_neg (fun e=>e hc)] at h
  obtain ⟨p,m,n,rfl,rfl,rfl,CC⟩:=ck_of hc
  refine ⟨p,m,n,rfl,rfl,rfl,?_⟩
  by_cases h0 : rows.length = 0
  ·rw [if_pos h0] at h;cases h
  rw [if_neg h0] at h
  by_cases h1 : cdE p m md n rows dd sets = 0
  ·rw [if_neg (fun e=>e h1),Int.toNat_natCast] at h
   by_cases h2 : 65536 < cumN n (((dd - 1) / 2).toNat + 1)
   ·rw [if_pos h2] at h;cases h
   rw [if_neg h2] at h
   by_cases h3 : W < 1 ∨ 16 < W ∨ racks.length < 1 ∨ 64 < racks.length ∨ ∃ x ∈ racks,x < 1
   ·rw [if_pos h3] at h;cases h
   rw [if_neg h3] at h
   by_cases h4 : 256 < sumI racks
   ·rw [if_pos h4] at h;cases h
   rw [if_neg h4] at h
   by_cases h5 : sumI racks < n
   ·rw [if_pos h5] at h;cases h
   refine ⟨CC,by omega,h1,by omega,?_,?_,?_,?_,fun x hx=>?_,by omega,by omega⟩
   ·by_cases h6 : W < 1
    ·exact absurd (.inl h6) h3
    ·omega
   ·by_cases h6 : 16 < W
    ·exact absurd (.inr (.inl h6)) h3
    ·omega
   ·by_cases h6 : racks.length < 1
    ·exact absurd (.inr (.inr (.inl h6))) h3
    ·omega
   ·by_cases h6 : 64 < racks.length
    ·exact absurd (.inr (.inr (.inr (.inl h6)))) h3
    ·omega
   ·by_cases h6 : x < 1
    ·exact absurd (.inr (.inr (.inr (.inr ⟨x,hx,h6⟩)))) h3
    ·omega
  ·rw [if_pos h1] at h;exact absurd h h1
 ·rw [if_pos hc] at h;exact absurd h hc
theorem CfOk.r0 {p m n : Nat} {dd W : Int} {md racks : List Int} {rows sets : List (List Int)} (h : CfOk p m md n rows dd sets racks W) : ∀ x ∈ racks,0 ≤ x:=fun x hx=>by have:=h.rp x hx;omega
def nodeV (racks : List Int) (s b : Nat) : Int × Int:=(ringL racks).getD (plI (ringL racks).length s b) default
theorem CfOk.at {p m n : Nat} {dd W : Int} {md racks : List Int} {rows sets : List (List Int)} (h : CfOk p m md n rows dd sets racks W) (s b : Nat) : (ringL racks)[plI (ringL racks).length s b]? = some (nodeV racks s b):=by
 have h1:=ring_full h.r0
 have h2:=h.r4
 have h3:=h.CC.n1
 have h4 : plI (ringL racks).length s b < (ringL racks).length:=Nat.mod_lt _ (by omega)
 rw [nodeV,List.getD_eq_getElem?_getD,List.getElem?_eq_getElem h4];rfl
theorem CfOk.inj {p m n : Nat} {dd W : Int} {md racks : List Int} {rows sets : List (List Int)} (h : CfOk p m md n rows dd sets racks W) {s b c : Nat} (hb : b < n) (hc : c < n) (he : (nodeV racks s b).1 = (nodeV racks s c).1) : b = c:=by
 have h1:=ring_full h.r0
 have h2:=h.r4
 have hn:=ring_nodup h.r0 (K:=(maxL 0 racks).toNat)
 rw [show ringK racks (maxL 0 racks).toNat = ringL racks from rfl] at hn
 have a1:=h.at s b
 have a2:=h.at s c
 have b1 : ((ringL racks).map Prod.fst)[plI (ringL racks).length s b]? = some (nodeV racks s b).1:=by rw [List.getElem?_map,a1];rfl
 have b2 : ((ringL racks).map Prod.fst)[plI (ringL racks).length s c]? = some (nodeV racks s c).1:=by rw [List.getElem?_map,a2];rfl
 rw [he,← b2] at b1
 have l1 : plI (ringL racks).length s b < ((ringL racks).map Prod.fst).length:=by rw [List.length_map];exact Nat.mod_lt _ (by omega)
 exact pl_inj (t:=(ringL racks).length) (s:=s) (by omega) (by omega) ((List.getElem?_inj l1 hn).1 b1)
noncomputable def plE (P M : Int) (md : List Int) (N : Int) (rows : List (List Int)) (dd : Int) (sets : List (List Int)) (racks : List Int) (W s b : Int) : Int × Int :=
 if cfE P M md N rows dd sets racks W ≠ 0 then (0,cfE P M md N rows dd sets racks W) else if s < 0 ∨ b < 0 ∨ N ≤ b then (0,6) else ((nodeV racks s.toNat b.toNat).1,0)
section
variable {P M N dd W s b x e : Int} {n c nm cm nt ct nr cr : Nat} {pm ps pt pr : Option Addr} {md racks : List Int} {rows sets : List (List Int)}
theorem S_store_Place (hN : InR .i64 N) (hd : InR .i64 dd) (h : plE P M md N rows dd sets racks W s b = (x,e)) : Ctr Tryz.prog 13 [.agg #[.int .i64 P,.int .i64 M,.slice pm nm cm,.int .i64 N,.slice ps n c,.int .i64 dd,.slice pt nt ct,.slice pr nr cr,.int .i64 W],.int .i64 s,.int .i64 b] [] [slF I64 pm nm cm md,slF (encSl I64) ps n c rows,slF (encSl I64) pt nt ct sets,slF I64 pr nr cr racks] (Rv (.tuple #[.int .i64 x,.int .i64 e]) []):=by
 refine Ctr_of_j' (F:=F_store_Place) rfl fun C=>?_
 have hcr:=cfE_rng (P:=P) (M:=M) (N:=N) (dd:=dd) (md:=md) (rows:=rows) (sets:=sets) (racks:=racks) (W:=W)
 have c_store_CheckConfig:=fun {n c nm cm nt ct nr cr : Nat} {pm ps pt pr : Option Addr}=>S_store_CheckConfig (P:=P) (M:=M) (N:=N) (dd:=dd) (md:=md) (rows:=rows) (sets:=sets) (racks:=racks) (W:=W) (n:=n) (c:=c) (nm:=nm) (cm:=cm) (nt:=nt) (ct:=ct) (nr:=nr) (cr:=cr) (pm:=pm) (ps:=ps) (pt:=pt) (pr:=pr) hN hd rfl
 rw [plE] at h
 by_cases h0 : cfE P M md N rows dd sets racks W = 0
 ·rw [if_neg (fun e=>e h0)] at h
  rw [h0] at c_store_CheckConfig
  obtain ⟨p,m,N,rfl,rfl,rfl,K⟩:=cf_ok h0
  have h64:=K.CC.n64
  by_cases h1 : s < 0
  ·rw [if_pos (.inl h1)] at h
   obtain ⟨rfl,rfl⟩:=Prod.mk.inj h
   refine wk 5 cz ?_
   intro b1
   refine j_step rfl (x_call [0,1,2,3] rfl (c_store_CheckConfig) rfl ?_)
   rintro _ _ _ ⟨rfl,rfl,rfl⟩
   simp only [List.cons_append,List.nil_append]
   refine wk 16 cz ?_
   intro h2 h3
   exact ge
  ·by_cases h2 : b < 0
   ·rw [if_pos (.inr (.inl h2))] at h
    obtain ⟨rfl,rfl⟩:=Prod.mk.inj h
    refine wk 5 cz ?_
    intro b1
    refine j_step rfl (x_call [0,1,2,3] rfl (c_store_CheckConfig) rfl ?_)
    rintro _ _ _ ⟨rfl,rfl,rfl⟩
    simp only [List.cons_append,List.nil_append]
    refine wk 21 cz ?_
    intro h3 h4 h5
    exact ge
   ·by_cases h3 : N ≤ b
    ·rw [if_pos (.inr (.inr h3))] at h
     obtain ⟨rfl,rfl⟩:=Prod.mk.inj h
     refine wk 5 cz ?_
     intro b1
     refine j_step rfl (x_call [0,1,2,3] rfl (c_store_CheckConfig) rfl ?_)
     rintro _ _ _ ⟨rfl,rfl,rfl⟩
     simp only [List.cons_append,List.nil_append]
     refine wk 25 cz ?_
     intro h4 h5 h6 h7
     exact ge
    ·rw [if_neg (by omega)] at h
     obtain ⟨rfl,rfl⟩:=Prod.mk.inj h
     obtain ⟨s,rfl⟩:=Int.eq_ofNat_of_zero_le (show 0 ≤ s by omega)
     obtain ⟨b,rfl⟩:=Int.eq_ofNat_of_zero_le (show 0 ≤ b by omega)
     rw [Int.toNat_natCast,Int.toNat_natCast]
     have hrf:=ring_full K.r0
     have hr3:=K.r3
     have hr1:=K.r1
     have hr2:=K.r2
     have hr0:=K.r0
     have hat:=K.at s b
     have c_store_at:=fun {po : Option Addr} {no co : Nat}=>S_store_at (po:=po) (no:=no) (co:=co) (by omega) (by omega) hat
     refine wk 5 cz ?_
     intro b1
     refine j_step rfl (x_call [0,1,2,3] rfl (c_store_CheckConfig) rfl ?_)
     rintro _ _ _ ⟨rfl,rfl,rfl⟩
     simp only [List.cons_append,List.nil_append]
     refine wk 16 cz ?_
     intro h4 h5 h6
     refine j_step rfl (x_call [3] rfl (S_store_ring (by omega) (by omega) (by omega) (by omega)) rfl ?_)
     rintro _ _ _ ⟨pb1,cb1,rfl,rfl,rfl⟩
     simp only [List.cons_append,List.nil_append]
     simp only [decide_true]
     refine wk 1 cz ?_
     refine j_step rfl (x_call [0] rfl (c_store_at) rfl ?_)
     rintro _ _ _ ⟨rfl,rfl,rfl⟩
     simp only [List.cons_append,List.nil_append]
     refine j_step rfl (x_fieldv1 rfl rfl rfl rfl rfl ?_)
     refine wk 2 cz ?_
     exact ge
 ·rw [if_pos h0] at h
  obtain ⟨rfl,rfl⟩:=Prod.mk.inj h
  refine wk 5 cz ?_
  intro b1
  refine j_step rfl (x_call [0,1,2,3] rfl (c_store_CheckConfig) rfl ?_)
  rintro _ _ _ ⟨rfl,rfl,rfl⟩
  simp only [List.cons_append,List.nil_append]
  refine wk 8 cz ?_
  intro h1
  exact ge
theorem S_codewrightref54_Place (hN : InR .i64 N) (hd : InR .i64 dd) (h : plE P M md N rows dd sets racks W s b = (x,e)) : Ctr Tryz.prog 14 [.agg #[.int .i64 P,.int .i64 M,.slice pm nm cm,.int .i64 N,.slice ps n c,.int .i64 dd,.slice pt nt ct,.slice pr nr cr,.int .i64 W],.int .i64 s,.int .i64 b] [] [slF I64 pm nm cm md,slF (encSl I64) ps n c rows,slF (encSl I64) pt nt ct sets,slF I64 pr nr cr racks] (Rv (.tuple #[.int .i64 x,.int .i64 e]) []):=by
 refine Ctr_of_j' (F:=F_codewrightref54_Place) rfl fun C=>?_
 have hcr:=cfE_rng (P:=P) (M:=M) (N:=N) (dd:=dd) (md:=md) (rows:=rows) (sets:=sets) (racks:=racks) (W:=W)
 have c_codewrightref54_CheckConfig:=fun {n c nm cm nt ct nr cr : Nat} {pm ps pt pr : Option Addr}=>S_codewrightref54_CheckConfig (P:=P) (M:=M) (N:=N) (dd:=dd) (md:=md) (rows:=rows) (sets:=sets) (racks:=racks) (W:=W) (n:=n) (c:=c) (nm:=nm) (cm:=cm) (nt:=nt) (ct:=ct) (nr:=nr) (cr:=cr) (pm:=pm) (ps:=ps) (pt:=pt) (pr:=pr) hN hd rfl
 rw [plE] at h
 by_cases h0 : cfE P M md N rows dd sets racks W = 0
 ·rw [if_neg (fun e=>e h0)] at h
  rw [h0] at c_codewrightref54_CheckConfig
  obtain ⟨p,m,N,rfl,rfl,rfl,K⟩:=cf_ok h0
  have h64:=K.CC.n64
  by_cases h1 : s < 0
  ·rw [if_pos (.inl h1)] at h
   obtain ⟨rfl,rfl⟩:=Prod.mk.inj h
   refine wk 5 cz ?_
   intro b1
   refine j_step rfl (x_call [0,1,2,3] rfl (c_codewrightref54_CheckConfig) rfl ?_)
   rintro _ _ _ ⟨rfl,rfl,rfl⟩
   simp only [List.cons_append,List.nil_append]
   refine wk 16 cz ?_
   intro h2 h3
   exact ge
  ·by_cases h2 : b < 0
   ·rw [if_pos (.inr (.inl h2))] at h
    obtain ⟨rfl,rfl⟩:=Prod.mk.inj h
    refine wk 5 cz ?_
    intro b1
    refine j_step rfl (x_call [0,1,2,3] rfl (c_codewrightref54_CheckConfig) rfl ?_)
    rintro _ _ _ ⟨rfl,rfl,rfl⟩
    simp only [List.cons_append,List.nil_append]
    refine wk 21 cz ?_
    intro h3 h4 h5
    exact ge
   ·by_cases h3 : N ≤ b
    ·rw [if_pos (.inr (.inr h3))] at h
     obtain ⟨rfl,rfl⟩:=Prod.mk.inj h
     refine wk 5 cz ?_
     intro b1
     refine j_step rfl (x_call [0,1,2,3] rfl (c_codewrightref54_CheckConfig) rfl ?_)
     rintro _ _ _ ⟨rfl,rfl,rfl⟩
     simp only [List.cons_append,List.nil_append]
     refine wk 25 cz ?_
     intro h4 h5 h6 h7
     exact ge
    ·rw [if_neg (by omega)] at h
     obtain ⟨rfl,rfl⟩:=Prod.mk.inj h
     obtain ⟨s,rfl⟩:=Int.eq_ofNat_of_zero_le (show 0 ≤ s by omega)
     obtain ⟨b,rfl⟩:=Int.eq_ofNat_of_zero_le (show 0 ≤ b by omega)
     rw [Int.toNat_natCast,Int.toNat_natCast]
     have hat:=K.at s b
     have c_codewrightref54_At:=fun {P M N dd W : Int} {n c nm cm nt ct nr cr : Nat} {pm ps pt pr : Option Addr}=>S_codewrightref54_At (P:=P) (M:=M) (N:=N) (dd:=dd) (W:=W) (n:=n) (c:=c) (nm:=nm) (cm:=cm) (nt:=nt) (ct:=ct) (nr:=nr) (cr:=cr) (pm:=pm) (ps:=ps) (pt:=pt) (pr:=pr) K.r0 K.r3 (show b ≤ 1000 by omega) hat
     refine wk 5 cz ?_
     intro b1
     refine j_step rfl (x_call [0,1,2,3] rfl (c_codewrightref54_CheckConfig) rfl ?_)
     rintro _ _ _ ⟨rfl,rfl,rfl⟩
     simp only [List.cons_append,List.nil_append]
     refine wk 17 cz ?_
     intro h4 h5 h6
     refine j_step rfl (x_call [3] rfl (c_codewrightref54_At) rfl ?_)
     rintro _ _ _ ⟨rfl,rfl,rfl⟩
     simp only [List.cons_append,List.nil_append]
     simp only [decide_true]
     refine wk 2 cz ?_
     exact ge
 ·rw [if_pos h0] at h
  obtain ⟨rfl,rfl⟩:=Prod.mk.inj h
  refine wk 5 cz ?_
  intro b1
  refine j_step rfl (x_call [0,1,2,3] rfl (c_codewrightref54_CheckConfig) rfl ?_)
  rintro _ _ _ ⟨rfl,rfl,rfl⟩
  simp only [List.cons_append,List.nil_append]
  refine wk 8 cz ?_
  intro h1
  exact ge
end
open Go Go.Fw
set_option maxRecDepth 100000
set_option linter.unusedVariables false
set_option linter.unusedSimpArgs false
set_option maxHeartbeats 0
section
variable {P M N dd W s b : Int} {n c nm cm nt ct nr cr : Nat} {pm ps pt pr : Option Addr} {md racks : List Int} {rows sets : List (List Int)}
theorem plE_rng {x e : Int} (h : plE P M md N rows dd sets racks W s b = (x,e)) : 0 ≤ e ∧ e ≤ 13:=by
 have:=cfE_rng (P:=P) (M:=M) (N:=N) (dd:=dd) (md:=md) (rows:=rows) (sets:=sets) (racks:=racks) (W:=W)
 rw [plE] at h
 split at h
 ·have:=(Prod.mk.inj h).2;omega
 ·split at h
  ·have:=(Prod.mk.inj h).2;omega
  ·have:=(Prod.mk.inj h).2;omega
theorem S_codewrightlaw54_StorePlaces (hN : InR .i64 N) (hd : InR .i64 dd) : Ctr Tryz.prog 4 [.agg #[.int .i64 P,.int .i64 M,.slice pm nm cm,.int .i64 N,.slice ps n c,.int .i64 dd,.slice pt nt ct,.slice pr nr cr,.int .i64 W],.int .i64 s,.int .i64 b] [] [slF I64 pm nm cm md,slF (encSl I64) ps n c rows,slF (encSl I64) pt nt ct sets,slF I64 pr nr cr racks] (Rv (.bool true) []):=by
 refine Ctr_of_j' (F:=F_codewrightlaw54_StorePlaces) rfl fun C=>?_
 have c_codewrightlaw54_alive:=S_codewrightlaw54_alive
 have c_codewrightlaw54_fit:=fun {P M N dd W : Int} {n c nm cm nt ct nr cr : Nat} {pm ps pt pr : Option Addr} {res : Bool} (hr : (decide ((sets.length : Int) ≤ 300) && decide (N ≤ 8)) = res)=>S_codewrightlaw54_fit (P:=P) (M:=M) (N:=N) (dd:=dd) (W:=W) (n:=n) (c:=c) (nm:=nm) (cm:=cm) (nt:=nt) (ct:=ct) (nr:=nr) (cr:=cr) (pm:=pm) (ps:=ps) (pt:=pt) (pr:=pr) hr
 cases hf : (decide ((sets.length : Int) ≤ 300) && decide (N ≤ 8)) with
 | false =>
  refine wk 5 cz ?_
  intro b1
  refine j_step rfl (x_call [2] rfl (c_codewrightlaw54_fit (by omega)) rfl ?_)
  rintro _ _ _ ⟨rfl,rfl,rfl⟩
  simp only [List.cons_append,List.nil_append]
  refine wk 4 cz ?_
  refine j_step rfl (x_call [] rfl (c_codewrightlaw54_alive) rfl ?_)
  rintro _ _ _ ⟨rfl,rfl,rfl⟩
  simp only [List.cons_append,List.nil_append]
  refine wk 2 cz ?_
  exact ge
 | true =>
 have c_store_Place:=fun {n c nm cm nt ct nr cr : Nat} {pm ps pt pr : Option Addr} {b x e : Int} (h : plE P M md N rows dd sets racks W s b = (x,e))=>S_store_Place (n:=n) (c:=c) (nm:=nm) (cm:=cm) (nt:=nt) (ct:=ct) (nr:=nr) (cr:=cr) (pm:=pm) (ps:=ps) (pt:=pt) (pr:=pr) hN hd h
 have c_codewrightref54_Place:=fun {n c nm cm nt ct nr cr : Nat} {pm ps pt pr : Option Addr} {b x e : Int} (h : plE P M md N rows dd sets racks W s b = (x,e))=>S_codewrightref54_Place (n:=n) (c:=c) (nm:=nm) (cm:=cm) (nt:=nt) (ct:=ct) (nr:=nr) (cr:=cr) (pm:=pm) (ps:=ps) (pt:=pt) (pr:=pr) hN hd h
 obtain ⟨⟨x,e⟩,hp⟩ : ∃ z,plE P M md N rows dd sets racks W s b = z:=⟨_,rfl⟩
 have he:=plE_rng hp
 by_cases h0 : e = 0
 ·subst h0
  have hcf : cfE P M md N rows dd sets racks W = 0 ∧ 0 ≤ s ∧ 0 ≤ b ∧ b < N:=by
   have hh:=hp
   rw [plE] at hh
   split at hh
   ·rename_i h;exact absurd (Prod.mk.inj hh).2 h
   ·rename_i h
    split at hh
    ·cases (Prod.mk.inj hh).2
    ·exact ⟨Classical.byContradiction h,by omega,by omega,by omega⟩
  obtain ⟨h0,hs,hb,hbN⟩:=hcf
  obtain ⟨p,m,N,rfl,rfl,rfl,K⟩:=cf_ok h0
  have h64:=K.CC.n64
  obtain ⟨s,rfl⟩:=Int.eq_ofNat_of_zero_le hs
  obtain ⟨b,rfl⟩:=Int.eq_ofNat_of_zero_le hb
  have hv : ∀ k : Nat,k < N → plE p m md N rows dd sets racks W s k = ((nodeV racks s k).1,0):=fun k hk=>by
   rw [plE,if_neg (fun h=>h h0),if_neg (by omega),Int.toNat_natCast,Int.toNat_natCast]
  have hx : x = (nodeV racks s b).1:=by
   have:=(hv b (by omega)).symm.trans hp
   exact (Prod.mk.inj this).1.symm
  refine wk 5 cz ?_
  intro b1
  refine j_step rfl (x_call [2] rfl (c_codewrightlaw54_fit (by omega)) rfl ?_)
  rintro _ _ _ ⟨rfl,rfl,rfl⟩
  simp only [List.cons_append,List.nil_append]
  refine wk 6 cz ?_
  refine j_step rfl (x_call [0,1,2,3] rfl (c_store_Place (by omega)) rfl ?_)
  rintro _ _ _ ⟨rfl,rfl,rfl⟩
  simp only [List.cons_append,List.nil_append]
  refine wk 4 cz ?_
  refine j_step rfl (x_call [0,1,2,3] rfl (c_codewrightref54_Place (by omega)) rfl ?_)
  rintro _ _ _ ⟨rfl,rfl,rfl⟩
  simp only [List.cons_append,List.nil_append]
  refine wk 9 cz ?_
  intro h1 h2
  refine j_gstep rfl rfl (x_call [] rfl (c_codewrightlaw54_alive) rfl ?_)
  rintro _ _ _ ⟨rfl,rfl,rfl⟩
  simp only [List.cons_append,List.nil_append]
  simp only [decide_true]
  refine wk 10 cz ?_
  intro h3
  refine j_loopG (X:=Nat) [1,2,3,7] [0,1,2,3] (fun k=>[(11,.int .i64 (k : Int))]) (fun _=>_) (fun _=>[]) (fun k=>k ≤ N) (fun k=>N - k) 0 [] rfl rfl rfl (Nat.zero_le _) (by repeat (first | exact Fr.sub_nil _ | refine Fr.sub_cons rfl ?_)) rfl rfl ?_
  rintro k hk ih
  simp only [List.cons_append,List.nil_append] at hk ih ⊢
  by_cases hkN : k < N
  ·have hvk:=hv k hkN
   have ih':=ih (k + 1) (by omega) (by omega)
   clear ih
   obtain ⟨y,hy⟩ : ∃ y,(nodeV racks s k).1 = y:=⟨_,rfl⟩
   rw [hy] at hvk
   by_cases hkb : k = b
   ·subst hkb
    have hxy : x = y:=by rw [hx,hy]
    subst hxy
    refine wk 11 cz ?_
    intro h4
    refine j_step rfl (x_call [0,1,2,3] rfl (c_store_Place (by omega)) rfl ?_)
    rintro _ _ _ ⟨rfl,rfl,rfl⟩
    simp only [List.cons_append,List.nil_append]
    refine wk 4 cz ?_
    intro h5
    refine j_gstep rfl rfl (x_neb ub rfl rfl ?_)
    refine wk 2 cz ?_
    refine j_cond rfl rfl (fun h6=>?_) (fun h6=>?_)
    ·exfalso;simp at h6
    ·refine wk 3 cz ?_
     exact tw (ih')
   ·have hxy : y ≠ x:=fun e=>hkb (K.inj hkN (by omega) (by rw [hy,e,hx]))
    refine wk 11 cz ?_
    intro h4
    refine j_step rfl (x_call [0,1,2,3] rfl (c_store_Place (by omega)) rfl ?_)
    rintro _ _ _ ⟨rfl,rfl,rfl⟩
    simp only [List.cons_append,List.nil_append]
    refine wk 4 cz ?_
    intro h5
    refine j_gstep rfl rfl (x_neb ub rfl rfl ?_)
    refine wk 2 cz ?_
    refine j_cond rfl rfl (fun h6=>?_) (fun h6=>?_)
    ·exfalso;simp [hxy,Int.ofNat_inj,hkb] at h6
    ·refine wk 3 cz ?_
     exact tw (ih')
  ·clear ih
   refine wk 11 cz ?_
   intro h4
   exact ge
 ·refine wk 5 cz ?_
  intro b1
  refine j_step rfl (x_call [2] rfl (c_codewrightlaw54_fit (by omega)) rfl ?_)
  rintro _ _ _ ⟨rfl,rfl,rfl⟩
  simp only [List.cons_append,List.nil_append]
  refine wk 6 cz ?_
  refine j_step rfl (x_call [0,1,2,3] rfl (c_store_Place (by omega)) rfl ?_)
  rintro _ _ _ ⟨rfl,rfl,rfl⟩
  simp only [List.cons_append,List.nil_append]
  refine wk 4 cz ?_
  refine j_step rfl (x_call [0,1,2,3] rfl (c_codewrightref54_Place (by omega)) rfl ?_)
  rintro _ _ _ ⟨rfl,rfl,rfl⟩
  simp only [List.cons_append,List.nil_append]
  refine wk 13 cz ?_
  intro h1 h2
  refine j_gstep rfl rfl (x_call [] rfl (c_codewrightlaw54_alive) rfl ?_)
  rintro _ _ _ ⟨rfl,rfl,rfl⟩
  simp only [List.cons_append,List.nil_append]
  simp only [decide_true]
  refine wk 10 cz ?_
  intro h3
  exact ge
end
end Go.Proofs.YteadncphjconmaaGreat
