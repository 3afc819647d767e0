/- Joined. -/
import Derived.Test.YtjdccifdkjnknaaGreatDoorZC07
